/-
  Texts of the proof, laid together: RInts, RUtf8, RUtf16, RKana, RKana3, Single2, RSingle, RUtf8b, RUtf8c, RUtf8d, RStream, Text1, Text3, Kana4, Enc, Enc2, Text2, PlainBegun, LawText, LawRecode. No condition of its own.
-/
import Derived.Test.YteingkjdemlhgaaGreatDoorG1
import Derived.Test.YteingkjdemlhgaaGreatDoorG4
import Derived.Test.YteingkjdemlhgaaGreatDoorG3
import Derived.RegionTactic
import Derived.BigRegion
import Derived.Deep.Cut
import Derived.Deep.CutRange
import Derived.Deep.CutBlock
import Derived.Test.YteingkjdemlhgaaGreatDoorG2
import Derived.KernelRfl

/-
  Are two lists of numbers the same? What the references' SameInts and the laws' intsAre answer.
-/
namespace Go.Proofs.YteingkjdemlhgaaGreatDoor
open Go.RowKit
set_option maxRecDepth 100000 in
theorem sameInts_any (v1 v2 : Value) (xs ys : List Int) (w : World) (h1 : IntSl w v1 xs) (h2 : IntSl w v2 ys) : Calls Tryz.prog 15 #[v1, v2] w fun e w' => e = .returned (.bool (xs == ys)) ∧ Bel w w' := by
  obtain ⟨a, ca, rfl, hc1, hc2, hn, hx⟩ := h1
  obtain ⟨b, cb, rfl, hc3, hc4, hn2, hy⟩ := h2
  unfold maxLen at hc2 hc4
  by_cases hl : xs.length = ys.length
  · have hl1 : xs.length ≤ ys.length := by omega
    have hl2 : ys.length ≤ xs.length := by omega
    have hlb : ((xs.length : Int) != (ys.length : Int)) = false := by rw [bne_eq_false_iff_eq]; omega
    have HL := Lib.hid hl
    clear hl
    go_enter Tryz.func15, Tryz.ntmps15
    go_wp2_with fail
    go_loopw [5] (fun i wr => ∃ k : Nat, k ≤ xs.length ∧ i = .int .i64 k ∧ Hid (∀ j, j < k → xs[j]? = ys[j]?) ∧ ∃ q, wr = w.drewN q) (fun i _ => xs.length - (intOf i).toNat)
    case atStart => exact ⟨0, by omega, rfl, Lib.hid (fun j hj => by omega), 0, rfl⟩
    case round =>
      obtain ⟨k, hk, rfl, HE, q, rfl⟩ := hrel
      by_cases hlt : k < xs.length
      · obtain ⟨m, hm⟩ : ∃ m, xs[k]? = some m := ⟨_, List.getElem?_eq_getElem hlt⟩
        obtain ⟨n, hn1⟩ : ∃ n, ys[k]? = some n := ⟨_, List.getElem?_eq_getElem (by omega)⟩
        cases a with
        | none => rw [hn rfl] at hlt; simp at hlt
        | some x =>
          cases b with
          | none => exfalso; have hl3 := hl1; rw [hn2 rfl, List.length_nil] at hl3; omega
          | some y =>
            have hcx := hx x rfl k m hm
            have hcy := hy y rfl k n hn1
            have i1 : (k : Int) < (xs.length : Int) := by omega
            have i2 : (k : Int) < (ys.length : Int) := by omega
            have i0 : (0 : Int) ≤ (k : Int) := by omega
            by_cases he : m = n
            · subst he
              have HF := Lib.hid (show ∀ j, j < k + 1 → xs[j]? = ys[j]? from fun j hj => by
                by_cases hjk : j < k
                · exact HE.out j hjk
                · obtain rfl : j = k := by omega
                  rw [hm, hn1])
              clear hx hy hn hn2 hm hn1
              go_wp2_with fail
              go_quiet (fail)
              go_wp2_with fail
              go_roundw
              case rel => exact ⟨k + 1, by omega, by go_num, HF, _, rfl⟩
              case measure => simp [intOf]; omega
            · have hne : (m != n) = true := by simpa using he
              have HF := Lib.hid (show (xs == ys) = false by
                rw [beq_eq_false_iff_ne]; rintro rfl
                rw [hm] at hn1; injection hn1 with hn1; exact he hn1)
              clear hx hy hn hn2 hm hn1 he
              go_wp2_with fail
              go_quiet (fail)
              go_wp2_with fail
              go_ret
              rw [HF.out]
              exact ⟨rfl, (by repeat (first | exact Bel.refl _ | refine Bel.drewN ?_ _ | refine Bel.drew ?_ | refine Bel.alloc ?_ _ | refine Bel.trans ?_ (by assumption) | refine Bel.setCell ?_ (by simp; omega) _))⟩
      · obtain rfl : k = xs.length := by omega
        have HF := Lib.hid (show (xs == ys) = true by
          rw [beq_iff_eq]
          refine List.ext_getElem? fun j => ?_
          by_cases hj : j < xs.length
          · exact HE.out j hj
          · rw [List.getElem?_eq_none (by omega), List.getElem?_eq_none (by omega)])
        go_wp2_with fail
        go_ret
        rw [HF.out]
        exact ⟨rfl, (by repeat (first | exact Bel.refl _ | refine Bel.drewN ?_ _ | refine Bel.drew ?_ | refine Bel.alloc ?_ _ | refine Bel.trans ?_ (by assumption) | refine Bel.setCell ?_ (by simp; omega) _))⟩
  · have hlb : ((xs.length : Int) != (ys.length : Int)) = true := by rw [bne_iff_ne]; omega
    have HF := Lib.hid (show (xs == ys) = false by rw [beq_eq_false_iff_ne]; rintro rfl; exact hl rfl)
    clear hl
    go_enter Tryz.func15, Tryz.ntmps15
    go_wp2_with fail
    go_ret
    rw [HF.out]
    exact ⟨rfl, Bel.refl _⟩
theorem sameInts_yes (v1 v2 : Value) (xs ys : List Int) (w : World) (h1 : IntSl w v1 xs) (h2 : IntSl w v2 ys) (h : xs = ys) : Calls Tryz.prog 15 #[v1, v2] w fun e w' => e = .returned (.bool true) ∧ Bel w w' := by
  have := sameInts_any v1 v2 xs ys w h1 h2
  rw [h] at this
  simpa using this
end Go.Proofs.YteingkjdemlhgaaGreatDoor

/-
  The document's answers on UTF-8: IsScalar, CheckPoints, Row, EncodeUtf8.
-/
namespace Go.Proofs.YteingkjdemlhgaaGreatDoor
open Go.RowKit
set_option maxRecDepth 1000000
end Go.Proofs.YteingkjdemlhgaaGreatDoor

/-
  The document's answers on UTF-16: unitAt, DecodeUtf16, EncodeUtf16.
-/
namespace Go.Proofs.YteingkjdemlhgaaGreatDoor
open Go.RowKit
set_option maxRecDepth 1000000
end Go.Proofs.YteingkjdemlhgaaGreatDoor

/-
  The document's answers on signs that are shifted: KanaSign, kanaByte, HasKana.
-/
namespace Go.Proofs.YteingkjdemlhgaaGreatDoor
open Go.RowKit
set_option maxRecDepth 1000000
end Go.Proofs.YteingkjdemlhgaaGreatDoor

/-
  The document's answers on signs that are shifted: DecodeKana.
-/
namespace Go.Proofs.YteingkjdemlhgaaGreatDoor
open Go.RowKit
set_option maxRecDepth 1000000
end Go.Proofs.YteingkjdemlhgaaGreatDoor

/-
  Package single: what Raw and Encode compute: the map from code points to bytes.
-/
namespace Go.Proofs.YteingkjdemlhgaaGreatDoor
open Go.RowKit Go.Maps
theorem lawInt : Keyed Tryz.prog 3 := int_keyed Tryz.underlying3
theorem zeroInt (w : World) : (zeroValue 3).run Tryz.prog w = .ok (.int .i64 0) w := by kernel_rfl
theorem ownsMap_keep {w w' : World} {b n : Nat} {D : DataW Unit} (h : w.ownsMap Tryz.prog 3 (plainElem Tryz.prog 3) b n D) (hk : w'.heap[b]? = w.heap[b]?) : w'.ownsMap Tryz.prog 3 (plainElem Tryz.prog 3) b n D := by
  obtain ⟨es, c, h1, h2⟩ := h
  exact ⟨es, c, hk.trans h1, h2⟩
theorem pointOf_bounds (user : Bool) (k : Nat) (hk : k < 256) : 0 ≤ M.pointOf user k ∧ M.pointOf user k ≤ 65535 := by
  unfold M.pointOf
  split
  · omega
  · split
    · omega
    · split
      · have : ∀ j, j < 32 → 0 ≤ M.high[j]?.getD 0 ∧ M.high[j]?.getD 0 ≤ 65535 := by decide
        exact this _ (by omega)
      · omega
theorem cells_bel {w w' : World} {a : Option Addr} {xs : List Int} (h : ∀ x, a = some x → ∀ i n, xs[i]? = some n → w.cell? (x.add i) = some (.int .i64 n)) (hb : Bel w w') : ∀ x, a = some x → ∀ i n, xs[i]? = some n → w'.cell? (x.add i) = some (.int .i64 n) := by
  intro x hx i n hn
  have := h x hx i n hn
  exact (hb.cell (World.block_lt_of_cell? w _ this)).trans this
theorem grown_trans {a b c : World} {row : Option Nat} (h : a.grownBy b row) (k : b.grownBy c row) : a.grownBy c row :=
  ⟨k.os.trans h.os, k.tape.trans h.tape, k.output.trans h.output, Nat.le_trans h.size k.size, fun i hi hne => (k.block i (Nat.lt_of_lt_of_le hi h.size) hne).trans (h.block i hi hne)⟩
/-- 'v, ok := m[k]' where both are known. -/
theorem wpList_look {P : Program} {w : World} {ops : Array Oper} {rest : List Oper} {o : Oper} {a : Act} {Q : Exit → Act → World → Prop} (hg : o.guard = none) (m x : Operand) (t : TypeId) (hop : o.op = Op.lookup t m x true)
    (k e : TypeId) (K : Keyed P k) (ht : P.underlying t = some (.map k e)) (he : P.underlying e = some (.int .i64)) (hz : (zeroValue e).run P w = .ok (.int .i64 0) w) (b n : Nat) (D : DataW Unit)
    (hm : a.eval m = .map (some b)) (hown : w.ownsMap P k (plainElem P e) b n D) (key : Value) (kl : Lit) (hx : a.eval x = key) (hkey : keyOf P k key = some kl)
    (c0 : Int) (hc : D.atKey kl (.lit (.int .i64 0)) = .lit (.int .i64 c0)) (bo : Bool) (hb : Maps.has D kl = bo)
    (h : wpList P ops Q rest (a.put o.dst (.tuple #[.int .i64 c0, .bool bo])) w) : wpList P ops Q (o :: rest) a w := by
  refine wpList_lookup_own_ok_int w hg m x t hop k e .i64 K ht he hz b n D hm hown key kl hx hkey (fun c hat _ => ?_)
  rw [hc] at hat
  injection hat with hat
  injection hat with _ hat
  rw [← hat, hb]
  exact h
set_option maxRecDepth 100000 in
theorem raw_any (user : Bool) (v : Value) (xs : List Int) (w : World) (hv : IntSl w v xs) (hlen : xs.length ≤ 1000000) (hbd : ∀ n ∈ xs, -9223372036854775808 ≤ n ∧ n ≤ 9223372036854775807) :
    Calls Tryz.prog 89 #[.bool user, v] w fun e w' => e = .returned (.tuple #[.string ⟨(M.rawS user xs).1.toArray⟩, .int .i64 (M.rawS user xs).2]) ∧ Bel w w' := by
  obtain ⟨a, ca, rfl, hc1, hc2, hn, hx⟩ := hv
  unfold maxLen at hc2
  have hmm := @run_makeMap Tryz.prog
  go_enter Tryz.func89, Tryz.ntmps89
  go_wp2_with (go_at_call 132; refine (table_row _ _).mono ?_; rintro e w' ⟨g, c, rfl, hc3, hc4, hg0, hg, hcell, hi, hb⟩; clear hi)
  have hb0 : Bel (w.alloc (.map #[] 0)) w' := by assumption
  have hmg : w.heap.size < w'.heap.size := hb0.lt (by simp)
  have hbw : Bel w w' := ((Bel.refl w).alloc _).trans hb0
  have hne : g ≠ w.heap.size := by
    have : w.heap.size + 1 ≤ g := by simpa using hg0
    omega
  go_loopw [18] (fun i wr => ∃ k : Nat, k ≤ 256 ∧ i = .int .i64 k ∧ wr.ownsMap Tryz.prog 3 (plainElem Tryz.prog 3) w.heap.size k (M.Dk user k) ∧ w'.grownBy wr (some w.heap.size)) (fun i _ => 256 - (intOf i).toNat)
  case atStart => 
    refine ⟨0, by omega, rfl, ?_, World.grownBy.refl _ _⟩
    exact ownsMap_keep (World.ownsMap_made _ _ _ _) (hb0.block _ (by simp))
  case round => 
    obtain ⟨k, hk, rfl, hown, hgr⟩ := hrel
    by_cases hlt : k < 256
    · have hp := pointOf_bounds user k hlt
      have hck : wr.cell? ⟨g, k, none⟩ = some (.int .i64 (M.pointOf user k)) := hgr.cell (hcell k hlt) (by intro e; injection e with e; exact hne e)
      have hkey : keyOf Tryz.prog 3 (.int .i64 (M.pointOf user k)) = some (.int .i64 (M.pointOf user k)) := keyOf_int_mk Tryz.underlying3 (WalkArith.wf_i64 (by omega))
      have hval : plainElem (H := Unit) Tryz.prog 3 (.int .i64 (k : Int)) = some (.lit (.int .i64 (k : Int)), []) := plainElem_int Tryz.underlying3 (WalkArith.wf_i64 (by omega))
      clear hcell hx hn
      go_wp2_with (first | (at_mapUpdate; refine wpList_mapUpdate_own _ rfl _ _ _ 157 rfl 3 3 lawInt Tryz.underlying157 _ w.heap.size k _ rfl hown (by unfold maxLen; omega) _ _ _ rfl rfl hkey _ [] hval ?_; intro w1 hown1 hgrow1))
      go_roundw
      case rel => exact ⟨k + 1, by omega, by go_num, hown1, grown_trans hgr hgrow1⟩
      case measure => simp [intOf]; omega
    · obtain rfl : k = 256 := by omega
      have hbr : Bel w wr := hbw.upto ((Below.refl w.heap.size w').grown hgr hbw.size (fun j hj => by cases hj; exact Nat.le_refl _)) (Nat.le_refl _)
      have hmr : w.heap.size < wr.heap.size := Nat.lt_of_lt_of_le hmg hgr.size
      have hx2 := cells_bel hx hbr
      clear hcell hx
      obtain ⟨wm, rfl⟩ : ∃ wo : World, wo = wr := ⟨_, rfl⟩
      go_wp2_with fail
      go_loopw [9, 29] (fun v i wr => ∃ k : Nat, k ≤ xs.length ∧ i = .int .i64 k ∧ ∃ l, Hid (M.encodeS user (xs.take k) = some l) ∧ l.length ≤ k ∧ Own wm.heap.size 5 wr v (l.map byteVal) ∧ Below wm.heap.size wm wr) (fun _ i _ => xs.length - (intOf i).toNat)
      case atStart => exact ⟨0, by omega, rfl, [], Lib.hid rfl, by simp, Own.nil _ _ _, Below.refl _ _⟩
      case round =>
        obtain ⟨k, hk, rfl, l, HL, hl, hownl, hbl⟩ := hrel
        by_cases hlt : k < xs.length
        · obtain ⟨n, hn1⟩ : ∃ n, xs[k]? = some n := ⟨_, List.getElem?_eq_getElem hlt⟩
          cases a with
          | none => rw [hn rfl] at hlt; simp at hlt
          | some x =>
            have hcx : wm.cell? (x.add k) = some (.int .i64 n) := hx2 x rfl k n hn1
            have hcell : wr.cell? (x.add k) = some (.int .i64 n) := (hbl.cell (World.block_lt_of_cell? wm _ hcx)).trans hcx
            have hwn := hbd n (List.mem_of_getElem? hn1)
            have hkey : keyOf Tryz.prog 3 (.int .i64 n) = some (.int .i64 n) := keyOf_int_mk Tryz.underlying3 (WalkArith.wf_i64 (by omega))
            have hownM := ownsMap_keep hown (hbl.block _ hmr)
            rcases M.byteOf_cases user n with ⟨hb1, hno⟩ | ⟨j, hj, hb1, hpj⟩
            · have hhas : Maps.has (M.Dk user 256) (.int .i64 n) = false := M.Dk_miss user n 256 hno
              have HR := Lib.hid (show M.rawS user xs = ([], 5) by rw [M.rawS, M.encodeS_miss user xs k n hn1 hb1])
              have Hhas := Lib.hid hhas
              have Hat := Lib.hid (Maps.atKey_of_not_has hhas (.lit (.int .i64 0)))
              clear hx2 hn hno hbd hn1 hb1 hcx hhas
              go_wp2_with (first | (at_lookup; refine wpList_look rfl _ _ 157 rfl 3 3 lawInt Tryz.underlying157 Tryz.underlying3 (zeroInt _) w.heap.size 256 _ rfl hownM _ _ rfl hkey 0 Hat.out false Hhas.out ?_))
              go_ret2
              rw [HR.out]
              exact ⟨rfl, hbr.upto hbl hbr.size⟩
            · obtain ⟨hhas, hat0⟩ := M.Dk_hit user n j hpj 256 (Nat.le_refl _) hj
              have HV := Lib.hid (show [UInt8.ofNat j].map byteVal = [.int .u8 (j : Int)] by simp [byteVal]; omega)
              have hB : wm.heap.size ≤ wr.heap.size := hbl.size
              have HE := Lib.hid (M.encodeS_hit user xs k n j l hn1 hb1 HL.out)
              have Hhas := Lib.hid hhas
              have Hat := Lib.hid (hat0 (.lit (.int .i64 0)))
              clear hx2 hn hbd hn1 hb1 hcx hpj hhas hat0
              go_wp2_with (first | (at_lookup; refine wpList_look rfl _ _ 157 rfl 3 3 lawInt Tryz.underlying157 Tryz.underlying3 (zeroInt _) w.heap.size 256 _ rfl hownM _ _ rfl hkey (j : Int) Hat.out true Hhas.out ?_) | (at_builtin; refine wpList_app rfl (.tmp 41) (.tmp 44) 120 rfl elemByte (by decide) wm.heap.size _ _ _ rfl rfl hownl rfl (by simp; omega) (by first | exact Nat.le_refl _ | assumption | (have := hb.size; omega)) ?_; intro v' w1 hown' hb1))
              go_roundw
              case rel =>
                have HO : Own wm.heap.size 5 w1 v' ((l ++ [UInt8.ofNat j]).map byteVal) := by rw [List.map_append, HV.out]; exact hown'
                first | exact ⟨k + 1, by omega, by go_num, _, HE, by simp; omega, HO, hbl.trans hb1⟩ | ((repeat apply Exists.intro); exact ⟨⟨k + 1, by omega, by go_num, _, HE, by simp; omega, HO, hbl.trans hb1⟩, rfl⟩)
              case measure => simp [intOf]; omega
        · obtain rfl : k = xs.length := by omega
          have HR := Lib.hid (show M.rawS user xs = (l, 0) by rw [M.rawS, ← List.take_length (l := xs), HL.out])
          go_wp2_with (first | ((with_reducible show wpList _ _ _ _ _ _); refine wpList_toString rfl (.tmp 47) _ _ 5 rfl Tryz.underlying120 Tryz.underlying5 Tryz.underlying9 wm.heap.size _ l rfl hownl ?_))
          go_ret2
          rw [HR.out]
          exact ⟨rfl, hbr.upto hbl hbr.size⟩
end Go.Proofs.YteingkjdemlhgaaGreatDoor

/-
  The document's answers on encodings of a byte a sign.
-/
namespace Go.Proofs.YteingkjdemlhgaaGreatDoor
open Go.RowKit
end Go.Proofs.YteingkjdemlhgaaGreatDoor

/-
  The document's answers on UTF-8: isBegun.
-/
namespace Go.Proofs.YteingkjdemlhgaaGreatDoor
open Go.RowKit
set_option maxRecDepth 1000000
end Go.Proofs.YteingkjdemlhgaaGreatDoor

/-
  The document's answers on UTF-8: valueOf.
-/
namespace Go.Proofs.YteingkjdemlhgaaGreatDoor
open Go.RowKit
set_option maxRecDepth 1000000
end Go.Proofs.YteingkjdemlhgaaGreatDoor

/-
  The document's answers on UTF-8: DecodeUtf8.
-/
namespace Go.Proofs.YteingkjdemlhgaaGreatDoor
open Go.RowKit
set_option maxRecDepth 1000000
end Go.Proofs.YteingkjdemlhgaaGreatDoor

/-
  The document's answers on streams: FeedOf.
-/
namespace Go.Proofs.YteingkjdemlhgaaGreatDoor
open Go.RowKit
set_option maxRecDepth 1000000
end Go.Proofs.YteingkjdemlhgaaGreatDoor

/-
  Whole texts: Whole, Decode; the document's WholeOf.
-/
namespace Go.Proofs.YteingkjdemlhgaaGreatDoor
open Go.RowKit
set_option maxRecDepth 1000000
set_option maxHeartbeats 2000000
theorem drop_ext (s : ByteArray) (k : Nat) : (s.extract k s.size).data.toList = s.data.toList.drop k := by
  rw [Lib.extract_data]
  rw [List.take_of_length_le]
  rw [List.length_drop, ← Lib.size_eq]
  exact Nat.le_refl _
theorem whole_to (nm s : ByteArray) (xs : List Int) (n y : Int) (h : M.wholeM nm.data.toList s.data.toList = (xs, n, y)) (hn : nm.size ≤ 68719476735) (hs : s.size ≤ 9000) (w : World) (hL : Len w) : Calls Tryz.prog 41 #[.string nm, .string s] w fun e w' => ∃ v, e = .returned (.tuple #[v, .int .i64 n, .int .i64 y]) ∧ Own w.heap.size 3 w' v (xs.map (Value.int .i64)) ∧ Bel w w' := by
  obtain ⟨n2, y2, k2, hc⟩ : ∃ n2 y2 k2, M.chosen nm.data.toList s.data.toList = (n2, y2, k2) := ⟨_, _, _, rfl⟩
  obtain ⟨q1, q2, q3, q4, q5, q6⟩ := M.chosen_ok nm.data.toList s.data.toList
  rw [M.wholeM, hc] at h
  rw [hc] at q1 q2 q3 q4 q5 q6
  simp only at h q1 q2 q3 q4 q5 q6
  obtain ⟨kn, rfl⟩ : ∃ kn : Nat, k2 = (kn : Int) := ⟨k2.toNat, by omega⟩
  rw [← Lib.size_eq] at q5
  have hkz : (kn : Int) ≤ (s.size : Int) := q5
  have hk : kn ≤ s.size := by omega
  simp only [Prod.mk.injEq] at h
  obtain ⟨h, rfl, rfl⟩ := h
  rw [Int.toNat_natCast, ← drop_ext s kn] at h
  have HI := Lib.hid q1
  have HC := Lib.hid hc
  have HX := Lib.hid h
  have hsz : (s.extract kn s.size).size ≤ s.size := by rw [Lib.size_eq, drop_ext s kn, List.length_drop, ← Lib.size_eq]; omega
  clear hc q1 q2 q3 q4 q5 q6 h
  have HA := Lib.hid (fun W => streamAll_any n2 HI.out (s.extract kn s.size) (by omega) W)
  clear hsz
  go_enter Tryz.func41, Tryz.ntmps41
  go_wp2_with fail
  refine (chosen_to nm s _ _ _ HC.out hn hs _ hL).mono ?_
  rintro e w1 ⟨rfl, b1⟩
  go_wp2_with fail
  refine (HA.out _).mono ?_
  rintro e w2 ⟨v, rfl, o2, b2⟩
  rw [HX.out] at o2
  go_wp2_with fail
  go_ret3
  exact ⟨_, rfl, o2.mono b1.size, b1.trans b2⟩
theorem decodeT_to (nm s : ByteArray) (xs : List Int) (n y k : Int) (h : M.decT nm.data.toList s.data.toList = (xs, n, y, k)) (w : World) (hL : Len w) : Calls Tryz.prog 14 #[.string nm, .string s] w fun e w' => ∃ v, e = .returned (.tuple #[v, .int .i64 n, .int .i64 y, .int .i64 k]) ∧ Own w.heap.size 3 w' v (xs.map (Value.int .i64)) ∧ Bel w w' := by
  by_cases hl : 3000 < nm.size ∨ 3000 < s.size
  · have HC := Lib.hid (show M.chooseE nm.data.toList s.data.toList = (0, 0, 0, 2) by rw [M.chooseE, ← Lib.size_eq, ← Lib.size_eq, if_pos hl])
    rw [M.decT, ← Lib.size_eq, ← Lib.size_eq, if_pos hl] at h
    simp only [Prod.mk.injEq] at h
    obtain ⟨rfl, rfl, rfl, rfl⟩ := h
    clear hl
    go_enter Tryz.func14, Tryz.ntmps14
    go_wp2_with fail
    refine (choose_to nm s _ _ _ _ HC.out _ hL).mono ?_
    rintro e w1 ⟨rfl, b1⟩
    go_wp2_with fail
    refine bodyPost_ret (v := .tuple #[.slice none 0 0, .int .i64 0, .int .i64 0, .int .i64 2]) (by simp [results, Tryz.results14, go_sem]) rfl ?_
    exact ⟨_, rfl, Own.nil _ _ _, b1⟩
  · obtain ⟨xs2, n2, y2, hw⟩ : ∃ xs2 n2 y2, M.wholeM nm.data.toList s.data.toList = (xs2, n2, y2) := ⟨_, _, _, rfl⟩
    rw [M.decT, ← Lib.size_eq, ← Lib.size_eq, if_neg hl, hw] at h
    simp only [Prod.mk.injEq] at h
    obtain ⟨rfl, rfl, rfl, rfl⟩ := h
    obtain ⟨n3, y3, k3, hc⟩ : ∃ n3 y3 k3, M.chosen nm.data.toList s.data.toList = (n3, y3, k3) := ⟨_, _, _, rfl⟩
    have HC := Lib.hid (show M.chooseE nm.data.toList s.data.toList = (n3, y3, k3, 0) by rw [M.chooseE, ← Lib.size_eq, ← Lib.size_eq, if_neg hl, hc])
    have HW := Lib.hid hw
    have hn : nm.size ≤ 68719476735 := by omega
    have hs : s.size ≤ 9000 := by omega
    clear hl hw hc
    go_enter Tryz.func14, Tryz.ntmps14
    go_wp2_with fail
    refine (choose_to nm s _ _ _ _ HC.out _ hL).mono ?_
    rintro e w1 ⟨rfl, b1⟩
    go_wp2_with fail
    refine (whole_to nm s _ _ _ HW.out hn hs _ (hL.bel b1)).mono ?_
    rintro e w2 ⟨v, rfl, o2, b2⟩
    go_wp2_with fail
    refine bodyPost_ret (v := .tuple #[v, .int .i64 n2, .int .i64 y2, .int .i64 0]) (by simp [results, Tryz.results14, go_sem]) rfl ?_
    exact ⟨_, rfl, o2.mono b1.size, b1.trans b2⟩
end Go.Proofs.YteingkjdemlhgaaGreatDoor

/-
  Whole texts: Count.
-/
namespace Go.Proofs.YteingkjdemlhgaaGreatDoor
open Go.RowKit
set_option maxRecDepth 1000000
set_option maxHeartbeats 2000000
theorem points_scalar (l : List Int) (h : M.points l = 0) : l.length ≤ 3000 ∧ ∀ n ∈ l, 0 ≤ n ∧ n ≤ 1114111 :=
  ⟨(points_scalars l h).1, fun n hn => by have := scalar_bounds n ((points_scalars l h).2 n hn); omega⟩
theorem badN_take (xs : List Int) (k : Nat) (n : Int) (h : xs[k]? = some n) : M.badN (xs.take (k + 1)) = M.badN (xs.take k) + (if n = 65533 then 1 else 0) := by
  rw [List.take_add_one, h, M.badN_app]
  congr 1
  by_cases hn : n = 65533 <;> simp [M.badN, hn]
theorem farN_take (xs : List Int) (k : Nat) (n : Int) (h : xs[k]? = some n) : M.farN (xs.take (k + 1)) = M.farN (xs.take k) + (if 127 < n then 1 else 0) := by
  rw [List.take_add_one, h, M.farN_app]
  congr 1
  by_cases hn : 127 < n <;> simp [M.farN, hn]
theorem pointsT_to (v : Value) (xs : List Int) (n : Int) (h : M.points xs = n) (w : World) (hv : IntSl w v xs) : Calls Tryz.prog 55 #[v] w fun e w' => e = .returned (.int .i64 n) ∧ w = w' := by
  have := points_any v xs w hv; rw [h] at this; exact this
theorem count_to (v : Value) (xs : List Int) (a b k : Int) (h : M.countE xs = (a, b, k)) (w : World) (hv : IntSl w v xs) : Calls Tryz.prog 28 #[v] w fun e w' => e = .returned (.tuple #[.int .i64 a, .int .i64 b, .int .i64 k]) ∧ Bel w w' := by
  obtain ⟨p, hp⟩ : ∃ p, M.points xs = p := ⟨_, rfl⟩
  have HP := Lib.hid hp
  have hv0 := hv
  by_cases h0 : p = 0
  · subst h0
    rw [M.countE, if_neg (by simp [hp])] at h
    simp only [Prod.mk.injEq] at h
    obtain ⟨rfl, rfl, rfl⟩ := h
    obtain ⟨hlen, _⟩ := points_scalar xs hp
    clear hp
    obtain ⟨a, c, rfl, hc1, hc2, hn, hx⟩ := hv
    unfold maxLen at hc2
    have HX := Lib.hid hx
    have HN := Lib.hid hn
    clear hx hn
    go_enter Tryz.func28, Tryz.ntmps28
    go_wp2_with fail
    refine (pointsT_to _ xs 0 HP.out _ hv0).mono ?_
    rintro e _ ⟨rfl, rfl⟩
    go_wp2_with fail
    go_loopw [18] (fun i wr => ∃ k : Nat, k ≤ xs.length ∧ i = .int .i64 k ∧ Box wr w.heap.size 104 [.int .i64 (M.badN (xs.take k) : Int), .int .i64 (M.farN (xs.take k) : Int)] ∧ Bel w wr) (fun i _ => xs.length - (intOf i).toNat)
    case atStart => exact ⟨0, by omega, rfl, Box.new w 104 [.int .i64 0, .int .i64 0], (by repeat (first | exact Bel.refl _ | refine Bel.drewN ?_ _ | refine Bel.drew ?_ | refine Bel.alloc ?_ _ | refine Bel.trans ?_ (by assumption) | refine Bel.setCell ?_ (by simp; omega) _))⟩
    case round =>
      obtain ⟨k, hk, rfl, hB, hb⟩ := hrel
      have hbf := M.bad_far (xs.take k)
      rw [List.length_take] at hbf
      by_cases hlt : k < xs.length
      · obtain ⟨n, hn⟩ : ∃ n, xs[k]? = some n := ⟨_, List.getElem?_eq_getElem hlt⟩
        cases a with
        | none => exfalso; have h3 := hlt; rw [HN.out rfl, List.length_nil] at h3; omega
        | some x =>
          have hcw : w.cell? (x.add k) = some (.int .i64 n) := HX.out x rfl k n hn
          have hxb : x.block < w.heap.size := by have := World.block_lt_of_cell? w _ hcw; rwa [block_of_add] at this
          have hcell : wr.cell? (x.add k) = some (.int .i64 n) := (hb.cell (World.block_lt_of_cell? w _ hcw)).trans hcw
          have E1 := badN_take xs k n hn
          have E2 := farN_take xs k n hn
          have c0 := hB.cell 0 _ rfl
          have c1 := hB.cell 1 _ rfl
          have q0 := hB.frozen 0
          have q1 := hB.frozen 1
          clear hcw hn
          by_cases h65 : n = 65533
          · subst h65
            rw [if_pos rfl] at E1
            rw [if_pos (by decide)] at E2
            have F1 := Lib.hid (show (M.badN (xs.take (k + 1)) : Int) = (M.badN (xs.take k) : Int) + 1 by omega)
            have F2 := Lib.hid (show (M.farN (xs.take (k + 1)) : Int) = (M.farN (xs.take k) : Int) + 1 by omega)
            clear E1 E2
            generalize M.badN (xs.take k) = bn at *
            generalize M.farN (xs.take k) = fn at *
            go_wp2_with fail
            go_roundw
            case rel => exact ⟨k + 1, by omega, by go_num, by rw [F1.out, F2.out]; exact (hB.set 0 _).set 1 _, (hb.setCell (p := ⟨w.heap.size, 0, none⟩) (Nat.le_refl _) _).setCell (p := ⟨w.heap.size, 1, none⟩) (Nat.le_refl _) _⟩
            case measure => simp [intOf]; omega
          · have g65 : (n == 65533) = false := by simpa using h65
            rw [if_neg h65] at E1
            by_cases h127 : 127 < n
            · rw [if_pos h127] at E2
              have F1 := Lib.hid (show (M.badN (xs.take (k + 1)) : Int) = (M.badN (xs.take k) : Int) by omega)
              have F2 := Lib.hid (show (M.farN (xs.take (k + 1)) : Int) = (M.farN (xs.take k) : Int) + 1 by omega)
              clear E1 E2 h65
              generalize M.badN (xs.take k) = bn at *
              generalize M.farN (xs.take k) = fn at *
              go_wp2_with fail
              go_roundw
              case rel => exact ⟨k + 1, by omega, by go_num, by rw [F1.out, F2.out]; exact hB.set 1 _, hb.setCell (p := ⟨w.heap.size, 1, none⟩) (Nat.le_refl _) _⟩
              case measure => simp [intOf]; omega
            · rw [if_neg h127] at E2
              have F1 := Lib.hid (show (M.badN (xs.take (k + 1)) : Int) = (M.badN (xs.take k) : Int) by omega)
              have F2 := Lib.hid (show (M.farN (xs.take (k + 1)) : Int) = (M.farN (xs.take k) : Int) by omega)
              clear E1 E2 h65
              generalize M.badN (xs.take k) = bn at *
              generalize M.farN (xs.take k) = fn at *
              go_wp2_with fail
              go_roundw
              case rel => exact ⟨k + 1, by omega, by go_num, by rw [F1.out, F2.out]; exact hB, hb⟩
              case measure => simp [intOf]; omega
      · obtain rfl : k = xs.length := by omega
        rw [List.take_length] at hB
        have c0 := hB.cell 0 _ rfl
        have c1 := hB.cell 1 _ rfl
        go_wp2_with fail
        go_region
        go_wp2_with fail
        go_ret3
        exact ⟨rfl, hb.drew⟩
  · rw [M.countE, hp, if_pos h0] at h
    simp only [Prod.mk.injEq] at h
    obtain ⟨rfl, rfl, rfl⟩ := h
    have g1 : (p != 0) = true := by simpa using h0
    clear hp h0
    go_enter Tryz.func28, Tryz.ntmps28
    go_wp2_with fail
    refine (pointsT_to _ xs p HP.out _ hv0).mono ?_
    rintro e _ ⟨rfl, rfl⟩
    go_wp2_with fail
    go_ret3
    exact ⟨rfl, Bel.refl _⟩
end Go.Proofs.YteingkjdemlhgaaGreatDoor

/-
  Package kana: Raw, Encode.
-/
namespace Go.Proofs.YteingkjdemlhgaaGreatDoor
open Go.RowKit
set_option maxRecDepth 1000000
theorem escape_to (g : Int) (l : List UInt8) (h : [27, 40, M.escB g] = l) (hg : g = 0 ∨ g = 1 ∨ g = 2) (w : World) : Calls Tryz.prog 134 #[.int .i64 g] w fun e w' => e = .returned (.string ⟨l.toArray⟩) ∧ Bel w w' := by
  have := escape_any g hg w; rw [h] at this; exact this
set_option maxHeartbeats 4000000 in
theorem rawK_any (v : Value) (xs : List Int) (w : World) (hv : IntSl w v xs) (hlen : xs.length ≤ 1000000) : Calls Tryz.prog 90 #[v] w fun e w' => e = .returned (.tuple #[.string ⟨(M.rawK xs).1.toArray⟩, .int .i64 (M.rawK xs).2]) ∧ Bel w w' := by
  obtain ⟨a, ca, rfl, hc1, hc2, hn, hx⟩ := hv
  unfold maxLen at hc2
  go_enter Tryz.func90, Tryz.ntmps90
  go_wp2_with fail
  go_loopw [4, 5, 12] (fun vg vs i wr => ∃ (k : Nat) (now : Int) (acc : List UInt8), k ≤ xs.length ∧ i = .int .i64 k ∧ vg = .int .i64 now ∧ 0 ≤ now ∧ now ≤ 2 ∧ vs = .string ⟨acc.toArray⟩ ∧ acc.length ≤ 4 * k ∧ Hid (M.encK 0 xs = (M.encK now (xs.drop k)).map (acc ++ ·)) ∧ Bel w wr) (fun _ _ i _ => xs.length - (intOf i).toNat)
  case atStart => exact ⟨0, 0, [], by omega, rfl, rfl, by omega, by omega, rfl, by simp, Lib.hid (by rw [List.drop_zero]; cases M.encK 0 xs <;> rfl), Bel.refl _⟩
  case round =>
    obtain ⟨k, now, acc, hk, rfl, rfl, hg0, hg1, rfl, hal, HT, hb⟩ := hrel
    by_cases hlt : k < xs.length
    · obtain ⟨n, hy⟩ : ∃ n, xs[k]? = some n := ⟨_, List.getElem?_eq_getElem hlt⟩
      have hdr : xs.drop k = n :: xs.drop (k + 1) := by
        rw [List.drop_eq_getElem_cons hlt]
        rw [List.getElem?_eq_getElem hlt] at hy
        injection hy with hy
        rw [hy]
      cases a with
      | none => exfalso; have h3 := hlt; rw [hn rfl, List.length_nil] at h3; omega
      | some x =>
        have hcw := hx x rfl k n hy
        have hcell : wr.cell? (x.add k) = some (.int .i64 n) := (Bel.cell hb (World.block_lt_of_cell? w _ hcw)).trans hcw
        have i1 : (k : Int) < (xs.length : Int) := by omega
        rcases M.findK_or now n with ⟨hf, h0, h1, h2, h3⟩ | ⟨g, c, hf, hg, hbk, hc, h27⟩
        · have HF := Lib.hid (show M.rawK xs = ([], 5) by
            rw [M.rawK, HT.out, hdr, M.encK, if_pos (by rw [hf]; decide)]; rfl)
          have H0 := Lib.hid h0
          have H1 := Lib.hid h1
          have H2 := Lib.hid h2
          have H3 := Lib.hid h3
          clear hx hn hy hdr hcw hf h0 h1 h2 h3
          go_wp2_with (first | (go_at_call 133; refine (find_no now n H0.out H1.out H2.out H3.out _).mono ?_; rintro e w' ⟨rfl, hb2⟩))
          go_ret2
          rw [HF.out]
          exact ⟨rfl, (by repeat (first | exact Bel.refl _ | refine Bel.drewN ?_ _ | refine Bel.drew ?_ | refine Bel.alloc ?_ _ | refine Bel.trans ?_ (by assumption) | refine Bel.setCell ?_ (by simp; omega) _))⟩
        · have hg2 : g = 0 ∨ g = 1 ∨ g = 2 := by omega
          have hgn : 0 ≤ g := by omega
          have hgm : g ≤ 2 := by omega
          have HS := Lib.hid (M.encK_step now g n c (xs.drop (k + 1)) acc hf hgn hbk)
          have HT2 := Lib.hid (show M.encK 0 xs = (M.encK g (xs.drop (k + 1))).map ((acc ++ M.shiftB now g ++ [UInt8.ofNat c]) ++ ·) by
            rw [HT.out, hdr, HS.out])
          have HF := Lib.hid hf
          have HG := Lib.hid hg2
          have HB := Lib.hid hbk
          have HV := Lib.hid (show [UInt8.ofNat c].map byteVal = [.int .u8 (c : Int)] by simp [byteVal]; omega)
          by_cases he : g = now
          · subst he
            have HL := Lib.hid (show acc ++ M.shiftB g g ++ [UInt8.ofNat c] = acc ++ [UInt8.ofNat c] by simp [M.shiftB])
            rw [HL.out] at HT2
            clear hx hn hy hdr hcw hf hg hbk HS hg2
            go_wp2_with (first | (go_at_call 133; refine (find_yes g n g c HF.out hgn HB.out _).mono ?_; rintro e w' ⟨rfl, hb2⟩) | ((with_reducible show wpList _ _ _ _ _ _); refine wpList_toString rfl (.tmp 34) _ _ 5 rfl Tryz.underlying120 Tryz.underlying5 Tryz.underlying9 _ _ [UInt8.ofNat c] rfl (own_row _ [UInt8.ofNat c] _ HV.out (by simp)) ?_))
            go_roundw
            case rel => exact ⟨k + 1, g, acc ++ [UInt8.ofNat c], by omega, by go_num, rfl, by omega, by omega, by simp [str_append], by rw [List.length_append, List.length_singleton]; omega, HT2, (by repeat (first | exact Bel.refl _ | refine Bel.drewN ?_ _ | refine Bel.drew ?_ | refine Bel.alloc ?_ _ | refine Bel.trans ?_ (by assumption) | refine Bel.setCell ?_ (by simp; omega) _))⟩
            case measure => simp [intOf]; omega
          · have e1 : (g != now) = true := by simpa using he
            obtain ⟨p, hp⟩ : ∃ p, [27, 40, M.escB g] = p := ⟨_, rfl⟩
            have HL := Lib.hid (show acc ++ M.shiftB now g ++ [UInt8.ofNat c] = acc ++ p ++ [UInt8.ofNat c] by rw [M.shiftB, if_neg he, hp])
            have hpl : p.length = 3 := by rw [← hp]; rfl
            have HP := Lib.hid hp
            rw [HL.out] at HT2
            clear hx hn hy hdr hcw hf hg hbk HS he hp hg2
            go_wp2_with (first | (go_at_call 133; refine (find_yes now n g c HF.out hgn HB.out _).mono ?_; rintro e w' ⟨rfl, hb2⟩) | (go_at_call 134; refine (escape_to g p HP.out HG.out _).mono ?_; rintro e w' ⟨rfl, hb3⟩) | ((with_reducible show wpList _ _ _ _ _ _); refine wpList_toString rfl (.tmp 34) _ _ 5 rfl Tryz.underlying120 Tryz.underlying5 Tryz.underlying9 _ _ [UInt8.ofNat c] rfl (own_row _ [UInt8.ofNat c] _ HV.out (by simp)) ?_))
            go_roundw
            case rel => exact ⟨k + 1, g, acc ++ p ++ [UInt8.ofNat c], by omega, by go_num, rfl, by omega, by omega, by simp [str_append], by rw [List.length_append, List.length_append, List.length_singleton]; omega, HT2, (by repeat (first | exact Bel.refl _ | refine Bel.drewN ?_ _ | refine Bel.drew ?_ | refine Bel.alloc ?_ _ | refine Bel.trans ?_ (by assumption) | refine Bel.setCell ?_ (by simp; omega) _))⟩
            case measure => simp [intOf]; omega
    · obtain rfl : k = xs.length := by omega
      have HE := Lib.hid (show M.encK 0 xs = some (acc ++ M.shiftB now 0) by rw [HT.out, List.drop_length, M.encK]; rfl)
      by_cases h0 : now = 0
      · subst h0
        have HF := Lib.hid (show M.rawK xs = (acc, 0) by rw [M.rawK, HE.out]; simp [M.shiftB])
        go_wp2_with fail
        go_ret2
        rw [HF.out]
        exact ⟨rfl, hb⟩
      · have e1 : (now != 0) = true := by simpa using h0
        have HF := Lib.hid (show M.rawK xs = (acc ++ [27, 40, 66], 0) by rw [M.rawK, HE.out, M.shiftB, if_neg (by omega)]; rfl)
        clear h0
        go_wp2_with (first | (go_at_call 134; refine (escape_to 0 [27, 40, 66] rfl (.inl rfl) _).mono ?_; rintro e w' ⟨rfl, hb3⟩))
        go_ret2
        rw [HF.out]
        exact ⟨by simp [str_append], (by repeat (first | exact Bel.refl _ | refine Bel.drewN ?_ _ | refine Bel.drew ?_ | refine Bel.alloc ?_ _ | refine Bel.trans ?_ (by assumption) | refine Bel.setCell ?_ (by simp; omega) _))⟩
end Go.Proofs.YteingkjdemlhgaaGreatDoor

/-
  Package encoder: Out, Output, has, Has, told.
-/
namespace Go.Proofs.YteingkjdemlhgaaGreatDoor
open Go.RowKit
set_option maxRecDepth 1000000
theorem out_any (n : Int) (w : World) : Calls Tryz.prog 57 #[.int .i64 n] w fun e w' => e = .returned (.int .i64 (M.outE n)) ∧ w = w' := by
  by_cases h1 : n = 2
  · have H := Lib.hid (show M.outE n = 1 by rw [M.outE, if_pos (.inl h1)])
    go_enter Tryz.func57, Tryz.ntmps57
    go_wp2
    go_ret
    exact ⟨by rw [H.out]; rfl, rfl⟩
  · by_cases h2 : n = 3
    · have H := Lib.hid (show M.outE n = 1 by rw [M.outE, if_pos (.inr (.inl h2))])
      have e1 : (n == 2) = false := by simpa using h1
      go_enter Tryz.func57, Tryz.ntmps57
      go_wp2
      go_ret
      exact ⟨by rw [H.out]; rfl, rfl⟩
    · by_cases h3 : n = 7
      · have H := Lib.hid (show M.outE n = 1 by rw [M.outE, if_pos (.inr (.inr h3))])
        have e1 : (n == 2) = false := by simpa using h1
        have e2 : (n == 3) = false := by simpa using h2
        go_enter Tryz.func57, Tryz.ntmps57
        go_wp2
        go_ret
        exact ⟨by rw [H.out]; rfl, rfl⟩
      · have H := Lib.hid (show M.outE n = n by rw [M.outE, if_neg (by omega)])
        have e1 : (n == 2) = false := by simpa using h1
        have e2 : (n == 3) = false := by simpa using h2
        have e3 : (n == 7) = false := by simpa using h3
        go_enter Tryz.func57, Tryz.ntmps57
        go_wp2
        go_ret
        exact ⟨by rw [H.out]; rfl, rfl⟩
theorem kanaHas_any (n : Int) (w : World) : Calls Tryz.prog 99 #[.int .i64 n] w fun e w' => e = .returned (.bool (M.hasK n)) ∧ Bel w w' := by
  have neg : ∀ g, ¬ 0 ≤ M.byteK g n → M.byteK g n = -1 := fun g h => by
    rcases M.byteK_or g n with h1 | ⟨c, _, h2, _⟩
    · exact h1
    · omega
  by_cases h : 0 ≤ M.findK 0 n
  · have HF := Lib.hid (show M.hasK n = true by rw [M.hasK, decide_eq_true_eq]; exact h)
    rcases M.findK_cases 0 n with h1 | ⟨_, h1⟩
    · omega
    · obtain ⟨c, hc⟩ := Int.eq_ofNat_of_zero_le h1
      obtain ⟨g, hg⟩ : ∃ g, M.findK 0 n = g := ⟨_, rfl⟩
      rw [hg] at h hc
      have HG := Lib.hid hg
      have HC := Lib.hid hc
      clear hg hc h1 neg
      go_enter Tryz.func99, Tryz.ntmps99
      go_wp2_with (go_at_call 133; refine (find_yes 0 n g c HG.out h HC.out _).mono ?_; rintro e w' ⟨rfl, hb⟩)
      go_ret
      exact ⟨by rw [HF.out]; rfl, hb⟩
  · have HF := Lib.hid (show M.hasK n = false by rw [M.hasK, decide_eq_false_iff_not]; exact h)
    have h0 : ¬ 0 ≤ M.byteK 0 n := fun h9 => h (by unfold M.findK; rw [if_pos h9]; exact Int.le_refl _)
    have h1 : ¬ 0 ≤ M.byteK 1 n := fun h9 => h (by unfold M.findK; rw [if_neg h0, if_neg h0, if_pos h9]; decide)
    have h2 : ¬ 0 ≤ M.byteK 2 n := fun h9 => h (by unfold M.findK; rw [if_neg h0, if_neg h0, if_neg h1, if_pos h9]; decide)
    have H0 := Lib.hid (neg 0 h0)
    have H1 := Lib.hid (neg 1 h1)
    have H2 := Lib.hid (neg 2 h2)
    clear h0 h1 h2 neg h
    go_enter Tryz.func99, Tryz.ntmps99
    go_wp2_with (go_at_call 133; refine (find_no 0 n H0.out H0.out H1.out H2.out _).mono ?_; rintro e w' ⟨rfl, hb⟩)
    go_ret
    exact ⟨by rw [HF.out]; rfl, hb⟩
theorem tellsS_has (user : Bool) (n : Int) : ∃ a k, M.tellsS user n = (a, k) ∧ (k == 0) = decide (0 ≤ M.byteOf user n) := by
  unfold M.tellsS
  split
  · rename_i h; exact ⟨0, 5, rfl, by rw [decide_eq_false (by omega)]; rfl⟩
  · rename_i h; exact ⟨_, 0, rfl, by rw [decide_eq_true (by omega)]; rfl⟩
theorem tells_to2 (user : Bool) (n a k : Int) (h : M.tellsS user n = (a, k)) (w : World) : Calls Tryz.prog 98 #[.bool user, .int .i64 n] w fun e w' => e = .returned (.tuple #[.int .i64 a, .int .i64 k]) ∧ Bel w w' := by
  have := tells_any user n w; rw [h] at this; exact this
theorem has_any (e n : Int) (w : World) : Calls Tryz.prog 67 #[.int .i64 e, .int .i64 n] w fun r w' => r = .returned (.bool (M.hasE e n)) ∧ Bel w w' := by
  by_cases h4 : e = 4
  · subst h4
    obtain ⟨a, k, hT, hk⟩ := tellsS_has false n
    have HT := Lib.hid hT
    have H := Lib.hid (show M.hasE 4 n = (k == 0) by rw [M.hasE, if_pos (.inl rfl), hk]; rfl)
    clear hT hk
    go_enter Tryz.func67, Tryz.ntmps67
    go_wp2_with (go_at_call 98; refine (tells_to2 false n a k HT.out _).mono ?_; rintro e w' ⟨rfl, hb⟩)
    go_ret
    exact ⟨by rw [H.out]; rfl, hb⟩
  · by_cases h5 : e = 5
    · subst h5
      obtain ⟨a, k, hT, hk⟩ := tellsS_has true n
      have HT := Lib.hid hT
      have H := Lib.hid (show M.hasE 5 n = (k == 0) by rw [M.hasE, if_pos (.inr rfl), hk]; rfl)
      clear hT hk
      go_enter Tryz.func67, Tryz.ntmps67
      go_wp2_with (go_at_call 98; refine (tells_to2 true n a k HT.out _).mono ?_; rintro e w' ⟨rfl, hb⟩)
      go_ret
      exact ⟨by rw [H.out]; rfl, hb⟩
    · have e1 : (e == 4) = false := by simpa using h4
      have e2 : (e == 5) = false := by simpa using h5
      by_cases h6 : e = 6
      · subst h6
        have H := Lib.hid (show M.hasE 6 n = M.hasK n by rw [M.hasE, if_neg (by omega), if_pos rfl])
        go_enter Tryz.func67, Tryz.ntmps67
        go_wp2_with (go_at_call 99; refine (kanaHas_any _ _).mono ?_; rintro e w' ⟨rfl, hb⟩)
        go_ret
        exact ⟨by rw [H.out]; rfl, hb⟩
      · have e3 : (e == 6) = false := by simpa using h6
        have H := Lib.hid (show M.hasE e n = true by rw [M.hasE, if_neg (by omega), if_neg h6])
        go_enter Tryz.func67, Tryz.ntmps67
        go_wp2_with fail
        go_ret
        exact ⟨by rw [H.out]; rfl, Bel.refl _⟩
end Go.Proofs.YteingkjdemlhgaaGreatDoor

/-
  Package encoder: told, write, Encode.
-/
namespace Go.Proofs.YteingkjdemlhgaaGreatDoor
open Go.RowKit
set_option maxRecDepth 1000000
theorem cell_of_heap {w w' : World} {g : Nat} (h : w'.heap[g]? = w.heap[g]?) (o : Nat) : w'.cell? ⟨g, o, none⟩ = w.cell? ⟨g, o, none⟩ := by
  simp only [World.cell?, h]
/-- What 'put' does: the list grows by one; nothing else is turned. -/
structure Put (w w' : World) (g B : Nat) (v v' : Value) (xs : List Value) : Prop where
  box : Box w' g 30 [v']
  own : Own B 3 w' v' xs
  bel : Below g w w'
  keep : ∀ k, v.ownBlock ≠ some k → k < w.heap.size → k ≠ g → w'.heap[k]? = w.heap[k]?
  lies : ∀ k, v'.ownBlock = some k → v.ownBlock = some k ∨ w.heap.size ≤ k
theorem told1_any (n : Int) (g B : Nat) (v : Value) (xs : List Value) (w : World) (hbox : Box w g 30 [v]) (hown : Own B 3 w v xs) (hg : g < B) (hB : B ≤ w.heap.size) (hlen : xs.length < 68719476735) :
    Calls Tryz.prog 87 #[.int .i64 n, .pointer (some ⟨g, 0, none⟩)] w fun e w' => e = .returned (.tuple #[]) ∧ ∃ v', Put w w' g B v v' (xs ++ [.int .i64 n]) := by
  have hc0 := hbox.cell 0 _ rfl
  have hno : ∀ k, v.ownBlock = some k → B ≤ k := fun k hk => (hown.lt k hk).1
  have hgs : g < w.heap.size := hbox.lt
  go_enter Tryz.func87, Tryz.ntmps87
  go_wp2_with (at_builtin; refine wpList_appM (.tmp 3) (.tmp 5) 30 rfl elemInt (by decide) B v xs (.int .i64 n) hown rfl (by omega) hB rfl rfl rfl ?_; intro v' w1 hown' hb1 hk1 hl1; obtain ⟨A', c', rfl, _, _, _, _⟩ := hown'.form; simp only [List.length_append, List.length_singleton] at hown' hl1; have hbx := Box.keep hbox (hk1 g (fun h => by have := hno g h; omega) hgs); have hc1 := hbx.cell 0 _ rfl; have hf1 := hbx.frozen 0)
  go_end0
  refine ⟨rfl, _, hbx.set0, hown'.setCell hg _, ?_, ?_, hl1⟩
  · exact Below.setCell (Below.mono hb1 (by omega : g ≤ B)) (Nat.le_refl _) _
  · intro k h1 h2 h3
    rw [← hk1 k h1 h2]
    exact Below.heap_setCell w1 _ _ k h3
theorem toldE_take (e : Int) (l : List Int) (k : Nat) (n : Int) (h : l[k]? = some n) : M.toldE e (l.take (k + 1)) = M.toldE e (l.take k) ++ (if M.hasE e n = true then [n] else (M.numE n).map (fun c => (c.toNat : Int))) := by
  rw [List.take_add_one, h, M.toldE_app]
  simp [M.toldE]
theorem toldE_len (e : Int) (l : List Int) (h : ∀ n ∈ l, 0 ≤ n ∧ n ≤ 1114111) : (M.toldE e l).length ≤ 10 * l.length := by
  induction l with
  | nil => simp [M.toldE]
  | cons n l ih =>
    have h1 := ih (fun m hm => h m (by simp [hm]))
    have h2 := numE_len n (h n (by simp)).1 (h n (by simp)).2
    have h3 : M.toldE e (n :: l) = (if M.hasE e n = true then [n] else (M.numE n).map (fun c => (c.toNat : Int))) ++ M.toldE e l := by simp [M.toldE]
    rw [h3, List.length_append, List.length_cons]
    split
    · simp; omega
    · rw [List.length_map]; omega
theorem told_any (e : Int) (v : Value) (xs : List Int) (w : World) (hv : IntSl w v xs) (htab : Tab w) (hlen : xs.length ≤ 3000) (hbd : ∀ n ∈ xs, 0 ≤ n ∧ n ≤ 1114111) :
    Calls Tryz.prog 56 #[.int .i64 e, v] w fun r w' => ∃ v', r = .returned v' ∧ IntSl w' v' (M.toldE e xs) ∧ Bel w w' := by
  obtain ⟨a, ca, rfl, hc1, hc2, hn, hx⟩ := hv
  unfold maxLen at hc2
  have HX := Lib.hid hx
  have HN := Lib.hid hn
  clear hx hn
  have hbox0 := Box.new w 30 [.slice none 0 0]
  go_enter Tryz.func56, Tryz.ntmps56
  go_wp2_with fail
  go_loopw [14] (fun i wr => ∃ (k : Nat) (v : Value), k ≤ xs.length ∧ i = .int .i64 k ∧ Box wr w.heap.size 30 [v] ∧ Own (w.heap.size + 1) 3 wr v ((M.toldE e (xs.take k)).map (Value.int .i64)) ∧ Bel w wr) (fun i _ => xs.length - (intOf i).toNat)
  case atStart => exact ⟨0, _, by omega, rfl, hbox0, Own.nil _ _ _, (Bel.refl w).alloc _⟩
  case round =>
    obtain ⟨k, v, hk, rfl, hbox, hown, hb⟩ := hrel
    by_cases hlt : k < xs.length
    · obtain ⟨n, hn⟩ : ∃ n, xs[k]? = some n := ⟨_, List.getElem?_eq_getElem hlt⟩
      cases a with
      | none => exfalso; have h3 := hlt; rw [HN.out rfl, List.length_nil] at h3; omega
      | some x =>
        have hcw : w.cell? (x.add k) = some (.int .i64 n) := HX.out x rfl k n hn
        have hcell : wr.cell? (x.add k) = some (.int .i64 n) := (hb.cell (World.block_lt_of_cell? w _ hcw)).trans hcw
        have HT := Lib.hid (toldE_take e xs k n hn)
        have hl1 := toldE_len e (xs.take k) (fun m hm => hbd m (List.mem_of_mem_take hm))
        rw [List.length_take] at hl1
        have hnb := hbd n (List.mem_of_getElem? hn)
        have hgs := hbox.lt
        clear hcw hbox0 hn
        cases hh : M.hasE e n with
        | true =>
          rw [hh, if_pos rfl] at HT
          have HH := Lib.hid hh
          clear hh
          go_wp2_with (first | (go_at_call 67; refine (has_any _ _ _).mono ?_; rintro e w' ⟨rfl, b1⟩; rw [HH.out]; have hbox1 := hbox.bel b1; have hown1 := hown.bel b1; have hb1 := b1.size) | (go_at_call 87; refine (told1_any n w.heap.size (w.heap.size + 1) _ _ _ hbox1 hown1 (by omega) (by omega) (by rw [List.length_map]; omega)).mono ?_; rintro e w2 ⟨rfl, v', PT⟩))
          go_roundw
          case rel => exact ⟨k + 1, v', by omega, by go_num, PT.box, by rw [HT.out, List.map_append]; exact PT.own, (hb.trans b1).upto PT.bel (Nat.le_refl _)⟩
          case measure => simp [intOf]; omega
        | false =>
          rw [hh, if_neg (by decide)] at HT
          have HH := Lib.hid hh
          clear hh
          have hne := numE_len n hnb.1 hnb.2
          have hil := itoa_len n hnb.1 hnb.2
          have HZ := Lib.hid (show ((⟨#[38, 35]⟩ : ByteArray) ++ ⟨(Lib.itoa n).toArray⟩ ++ ⟨#[59]⟩ : ByteArray).data.toList = M.numE n by simp [M.numE])
          have hzs : ((⟨#[38, 35]⟩ : ByteArray) ++ ⟨(Lib.itoa n).toArray⟩ ++ ⟨#[59]⟩ : ByteArray).size = (M.numE n).length := by rw [Lib.size_eq, HZ.out]
          go_wp2_with (first | (go_at_call 67; refine (has_any _ _ _).mono ?_; rintro e w' ⟨rfl, b1⟩; rw [HH.out]; have hbox1 := hbox.bel b1; have hown1 := hown.bel b1; have hb1 := b1.size) | (go_at_call 88; refine (itoa_bel n (by omega) (by omega) _ (htab.bel (hb.trans b1))).mono ?_; rintro e w' ⟨rfl, b2⟩) | ((with_reducible show wpList _ _ _ _ _ _); refine wpList_toBytes rfl (.tmp 27) _ _ 5 rfl Tryz.underlying9 Tryz.underlying120 Tryz.underlying5 ((⟨#[38, 35]⟩ : ByteArray) ++ ⟨(Lib.itoa n).toArray⟩ ++ ⟨#[59]⟩ : ByteArray) rfl (by omega) ?_; intro cb w3 hb3 hg3 hcb1 hcb2 hcellb hfrz))
          have hbox3 := (hbox1.bel b2).bel hb3
          have hown3 := (hown1.bel b2).bel hb3
          have hbw3 := ((hb.trans b1).trans b2).trans hb3
          have hcl : ∀ (j : Nat) c, (M.numE n)[j]? = some c → w3.cell? ⟨w'.heap.size, j, none⟩ = some (.int .u8 (c.toNat : Int)) := fun j c hj => hcellb j c (by rw [HZ.out]; exact hj)
          have hs2 := b2.size
          have hown2 := fun j hj => ((hown1.bel b2).lt j hj).2
          have HCL := Lib.hid hcl
          generalize hzz : ((⟨#[38, 35]⟩ : ByteArray) ++ ⟨(Lib.itoa n).toArray⟩ ++ ⟨#[59]⟩ : ByteArray) = z at *
          clear hcellb hfrz hcl hzz hbox hbox1 hown hown1 HX HN hcell
          have hgG : w.heap.size < w'.heap.size := by omega
          have hnoG : ∀ kk, v.ownBlock = some kk → kk ≠ w'.heap.size := fun kk hkk => by have := hown2 kk hkk; omega
          go_loopw [30] (fun i wq => ∃ (j : Nat) (v : Value), j ≤ z.size ∧ i = .int .i64 j ∧ Box wq w.heap.size 30 [v] ∧ Own (w.heap.size + 1) 3 wq v ((M.toldE e (xs.take k) ++ ((M.numE n).take j).map (fun c => (c.toNat : Int))).map (Value.int .i64)) ∧ (∀ kk, v.ownBlock = some kk → kk ≠ w'.heap.size) ∧ Bel w wq ∧ w'.heap.size < wq.heap.size ∧ Hid (∀ (j : Nat) c, (M.numE n)[j]? = some c → wq.cell? ⟨w'.heap.size, j, none⟩ = some (.int .u8 (c.toNat : Int)))) (fun i _ => z.size - (intOf i).toNat)
          case atStart => exact ⟨0, v, by omega, rfl, hbox3, by simpa using hown3, hnoG, hbw3, hg3, HCL⟩
          case round =>
            clear hbox3 hown3 hnoG hbw3 hg3 HCL hown2
            obtain ⟨j, v, hj, rfl, hbox, hown, hno, hbq, hgq, HC⟩ := hrel
            by_cases hjl : j < z.size
            · obtain ⟨c, hc⟩ : ∃ c, (M.numE n)[j]? = some c := ⟨_, List.getElem?_eq_getElem (by omega)⟩
              have hcell := HC.out j c hc
              have hgs := hbox.lt
              have hcl : c.toNat < 256 := c.toNat_lt
              have HTJ := Lib.hid (show (M.toldE e (xs.take k) ++ ((M.numE n).take (j + 1)).map (fun c => (c.toNat : Int))).map (Value.int .i64) = (M.toldE e (xs.take k) ++ ((M.numE n).take j).map (fun c => (c.toNat : Int))).map (Value.int .i64) ++ [.int .i64 (c.toNat : Int)] by
                rw [List.take_add_one, hc]; simp)
              clear hc
              go_wp2_with (go_at_call 87; refine (told1_any (c.toNat : Int) w.heap.size (w.heap.size + 1) _ _ _ hbox hown (by omega) (by omega) (by rw [List.length_map, List.length_append, List.length_map]; have := List.length_take_le j (M.numE n); omega)).mono ?_; rintro e w2 ⟨rfl, v', PT⟩)
              go_roundw
              case rel =>
                refine ⟨j + 1, v', by omega, by go_num, PT.box, by rw [HTJ.out]; exact PT.own, fun kk hkk => ?_, hbq.upto PT.bel (Nat.le_refl _), by have := PT.bel.size; omega, Lib.hid (fun jj cc hcc => ?_)⟩
                · rcases PT.lies kk hkk with h9 | h9
                  · exact hno kk h9
                  · omega
                · rw [cell_of_heap (PT.keep w'.heap.size (fun h9 => hno _ h9 rfl) hgq (by omega))]
                  exact HC.out jj cc hcc
              case measure => simp [intOf]; omega
            · obtain rfl : j = z.size := by omega
              have e1 : (M.numE n).take z.size = M.numE n := by rw [hzs, List.take_length]
              rw [e1] at hown
              have HT2 := Lib.hid (show (M.toldE e (xs.take (k + 1))).map (Value.int .i64) = (M.toldE e (xs.take k) ++ (M.numE n).map (fun c => (c.toNat : Int))).map (Value.int .i64) by rw [HT.out])
              go_wp2_with fail
              go_roundw
              case rel => exact ⟨k + 1, v, by omega, by go_num, hbox, by rw [HT2.out]; exact hown, hbq⟩
              case measure => simp [intOf]; omega
    · obtain rfl : k = xs.length := by omega
      rw [List.take_length] at hown
      have hc0 := hbox.cell 0 _ rfl
      go_wp2_with fail
      go_ret
      exact ⟨_, rfl, hown.ints, hb⟩
theorem write_any (e : Int) (v : Value) (xs : List Int) (w : World) (hv : IntSl w v xs) (hlen : xs.length ≤ 1000000) (hbd : ∀ n ∈ xs, 0 ≤ n ∧ n ≤ 1114111) (l : List UInt8) (k : Int) (h : M.writeE e xs = (l, k)) :
    Calls Tryz.prog 58 #[.int .i64 e, v] w fun r w' => r = .returned (.tuple #[.string ⟨l.toArray⟩, .int .i64 k]) ∧ Bel w w' := by
  have hb2 : ∀ n ∈ xs, -9223372036854775808 ≤ n ∧ n ≤ 9223372036854775807 := fun n hn => by have := hbd n hn; omega
  have HB := Lib.hid hbd
  have HB2 := Lib.hid hb2
  clear hbd hb2
  unfold M.writeE at h
  by_cases h4 : e = 4
  · subst h4
    rw [if_pos (.inl rfl)] at h
    have h1 : (M.rawS false xs).1 = l := congrArg Prod.fst h
    have h2 : (M.rawS false xs).2 = k := congrArg Prod.snd h
    have H1 := Lib.hid h1
    have H2 := Lib.hid h2
    clear h h1 h2
    go_enter Tryz.func58, Tryz.ntmps58
    go_wp2_with (go_at_call 89; refine (raw_any false v xs _ hv hlen HB2.out).mono ?_; rintro e w' ⟨rfl, hb⟩; rw [H1.out, H2.out])
    go_ret2
    exact ⟨rfl, hb⟩
  · by_cases h5 : e = 5
    · subst h5
      rw [if_pos (.inr rfl)] at h
      have h1 : (M.rawS true xs).1 = l := congrArg Prod.fst h
      have h2 : (M.rawS true xs).2 = k := congrArg Prod.snd h
      have H1 := Lib.hid h1
      have H2 := Lib.hid h2
      clear h h1 h2
      go_enter Tryz.func58, Tryz.ntmps58
      go_wp2_with (go_at_call 89; refine (raw_any true v xs _ hv hlen HB2.out).mono ?_; rintro e w' ⟨rfl, hb⟩; rw [H1.out, H2.out])
      go_ret2
      exact ⟨rfl, hb⟩
    · have e1 : (e == 4) = false := by simpa using h4
      have e2 : (e == 5) = false := by simpa using h5
      rw [if_neg (by omega)] at h
      by_cases h6 : e = 6
      · subst h6
        rw [if_pos rfl] at h
        have h1 : (M.rawK xs).1 = l := congrArg Prod.fst h
        have h2 : (M.rawK xs).2 = k := congrArg Prod.snd h
        have H1 := Lib.hid h1
        have H2 := Lib.hid h2
        clear h h1 h2
        go_enter Tryz.func58, Tryz.ntmps58
        go_wp2_with (go_at_call 90; refine (rawK_any v xs _ hv hlen).mono ?_; rintro e w' ⟨rfl, hb⟩; rw [H1.out, H2.out])
        go_ret2
        exact ⟨rfl, hb⟩
      · have e3 : (e == 6) = false := by simpa using h6
        rw [if_neg h6] at h
        injection h with h1 h2
        subst h2
        have H1 := Lib.hid h1
        clear h1
        go_enter Tryz.func58, Tryz.ntmps58
        go_wp2_with (go_at_call 91; refine (bytes8_any v xs _ hv hlen HB.out).mono ?_; rintro e w' ⟨rfl, hb⟩; rw [H1.out])
        go_ret2
        exact ⟨rfl, hb⟩
theorem enc_to (e mode : Int) (v : Value) (xs : List Int) (w : World) (hv : IntSl w v xs) (htab : Tab w) (l : List UInt8) (k : Int) (h : M.encE e mode xs = (l, k)) :
    Calls Tryz.prog 22 #[.int .i64 e, .int .i64 mode, v] w fun r w' => r = .returned (.tuple #[.string ⟨l.toArray⟩, .int .i64 k]) ∧ Bel w w' := by
  unfold M.encE at h
  cases hi : M.isEnc e with
  | false =>
    rw [hi, if_pos rfl] at h
    injection h with h1 h2
    subst h1; subst h2
    have HI := Lib.hid hi
    clear hi
    go_enter Tryz.func22, Tryz.ntmps22
    go_wp2_with (go_at_call 54; refine (isEnc_any _ _).mono ?_; rintro e w' ⟨rfl, rfl⟩; rw [HI.out])
    go_ret2
    exact ⟨rfl, Bel.refl _⟩
  | true =>
    rw [hi, if_neg (by decide)] at h
    have HI := Lib.hid hi
    clear hi
    by_cases hm : mode ≠ 0 ∧ mode ≠ 1
    · rw [if_pos hm] at h
      injection h with h1 h2
      subst h1; subst h2
      have e1 : (mode != 0) = true := by simpa using hm.1
      have e2 : (mode != 1) = true := by simpa using hm.2
      clear hm
      go_enter Tryz.func22, Tryz.ntmps22
      go_wp2_with (go_at_call 54; refine (isEnc_any _ _).mono ?_; rintro e w' ⟨rfl, rfl⟩; rw [HI.out])
      go_ret2
      exact ⟨rfl, Bel.refl _⟩
    · rw [if_neg hm] at h
      have hm2 : mode = 0 ∨ mode = 1 := by omega
      clear hm
      by_cases hp : M.points xs = 0
      · rw [if_neg (by simpa using hp)] at h
        obtain ⟨hl, hs⟩ := points_scalars xs hp
        have hbd : ∀ n ∈ xs, 0 ≤ n ∧ n ≤ 1114111 := fun n hn => by have := scalar_bounds n (hs n hn); omega
        have HP := Lib.hid hp
        clear hp hs
        rcases hm2 with rfl | rfl
        · rw [if_neg (by decide)] at h
          have HW := Lib.hid h
          clear h
          go_enter Tryz.func22, Tryz.ntmps22
          go_wp2_with (first | (go_at_call 54; refine (isEnc_any _ _).mono ?_; rintro e w' ⟨rfl, rfl⟩; rw [HI.out]) | (go_at_call 55; refine (points_any v xs _ hv).mono ?_; rintro e w' ⟨rfl, rfl⟩; rw [HP.out]) | (go_at_call 57; refine (out_any _ _).mono ?_; rintro e w' ⟨rfl, rfl⟩) | (go_at_call 58; refine (write_any _ v xs _ hv (by omega) hbd l k HW.out).mono ?_; rintro e w' ⟨rfl, hb⟩))
          go_ret2
          exact ⟨rfl, hb⟩
        · rw [if_pos rfl] at h
          have HW := Lib.hid h
          have hl2 := toldE_len (M.outE e) xs hbd
          have hbd2 : ∀ n ∈ M.toldE (M.outE e) xs, 0 ≤ n ∧ n ≤ 1114111 := fun n hn => by
            unfold M.toldE at hn
            rw [List.mem_flatMap] at hn
            obtain ⟨m, hm, hn⟩ := hn
            split at hn
            · simp only [List.mem_singleton] at hn; subst hn; exact hbd _ hm
            · rw [List.mem_map] at hn
              obtain ⟨c, hc, rfl⟩ := hn
              have := c.toNat_lt
              omega
          have HB2 := Lib.hid hbd2
          have HB := Lib.hid hbd
          clear h hbd hbd2
          go_enter Tryz.func22, Tryz.ntmps22
          go_wp2_with (first | (go_at_call 54; refine (isEnc_any _ _).mono ?_; rintro e w' ⟨rfl, rfl⟩; rw [HI.out]) | (go_at_call 55; refine (points_any v xs _ hv).mono ?_; rintro e w' ⟨rfl, rfl⟩; rw [HP.out]) | (go_at_call 57; refine (out_any _ _).mono ?_; rintro e w' ⟨rfl, rfl⟩) | (go_at_call 56; refine (told_any (M.outE e) v xs _ hv htab hl HB.out).mono ?_; rintro r wt ⟨vt, rfl, hvt, bt⟩) | (go_at_call 58; refine (write_any _ vt _ _ hvt (by omega) HB2.out l k HW.out).mono ?_; rintro e w' ⟨rfl, hb⟩))
          go_ret2
          exact ⟨rfl, bt.trans hb⟩
      · rw [if_pos (by simpa using hp)] at h
        injection h with h1 h2
        have hk : (k != 0) = true := by rw [← h2]; simpa using hp
        subst h1
        have HP := Lib.hid h2
        clear h2 hp
        rcases hm2 with rfl | rfl
        all_goals
          go_enter Tryz.func22, Tryz.ntmps22
          go_wp2_with (first | (go_at_call 54; refine (isEnc_any _ _).mono ?_; rintro e w' ⟨rfl, rfl⟩; rw [HI.out]) | (go_at_call 55; refine (points_any v xs _ hv).mono ?_; rintro e w' ⟨rfl, rfl⟩; rw [HP.out]))
          go_ret2
          exact ⟨rfl, Bel.refl _⟩
end Go.Proofs.YteingkjdemlhgaaGreatDoor

/-
  Whole texts: Recode, Count.
-/
namespace Go.Proofs.YteingkjdemlhgaaGreatDoor
open Go.RowKit
set_option maxRecDepth 1000000
set_option maxHeartbeats 2000000
theorem shiftB_len (a b : Int) : (M.shiftB a b).length ≤ 3 := by unfold M.shiftB; split <;> simp
theorem encK_len : ∀ (l : List Int) (now : Int) (b : List UInt8), M.encK now l = some b → b.length ≤ 4 * l.length + 3
  | [], now, b, h => by
    injection h with h; subst h
    have := shiftB_len now 0
    omega
  | n :: l, now, b, h => by
    rw [M.encK] at h
    split at h
    · cases h
    · obtain ⟨c, hc, rfl⟩ := Option.map_eq_some_iff.1 h
      have h1 := encK_len l _ c hc
      have h2 := shiftB_len now (M.findK now n)
      rw [List.length_append, List.length_cons, List.length_cons]
      omega
theorem encS_len (user : Bool) : ∀ (l : List Int) (b : List UInt8), M.encodeS user l = some b → b.length = l.length
  | [], b, h => by injection h with h; subst h; rfl
  | n :: l, b, h => by
    rw [M.encodeS] at h
    split at h
    · cases h
    · obtain ⟨c, hc, rfl⟩ := Option.map_eq_some_iff.1 h
      rw [List.length_cons, List.length_cons, encS_len user l c hc]
theorem row8T_len (n : Int) : (M.row8 n).length ≤ 4 := by unfold M.row8; (repeat' split) <;> simp
theorem bytes8T_len (l : List Int) : (M.bytes8 l).length ≤ 4 * l.length := by
  induction l with
  | nil => exact Nat.zero_le _
  | cons n l ih =>
    have h : M.bytes8 (n :: l) = M.row8 n ++ M.bytes8 l := rfl
    rw [h, List.length_append, List.length_cons]
    have := row8T_len n
    omega
theorem writeT_len (e : Int) (l : List Int) : (M.writeE e l).1.length ≤ 4 * l.length + 3 := by
  unfold M.writeE
  split
  · unfold M.rawS
    split
    · rename_i c hc
      have := encS_len _ _ _ hc
      simp only; omega
    · exact Nat.zero_le _
  · split
    · unfold M.rawK
      split
      · rename_i c hc
        exact encK_len _ _ _ hc
      · exact Nat.zero_le _
    · have := bytes8T_len l
      simp only; omega
theorem encT_len (e m : Int) (l : List Int) : (M.encE e m l).1.length ≤ 200000 := by
  unfold M.encE
  split
  · exact Nat.zero_le _
  · split
    · exact Nat.zero_le _
    · split
      · exact Nat.zero_le _
      · rename_i hp
        have hp : M.points l = 0 := by omega
        obtain ⟨h1, h2⟩ := points_scalar l hp
        have h3 := toldE_len (M.outE e) l h2
        have h4 := writeT_len (M.outE e) (if m = 1 then M.toldE (M.outE e) l else l)
        have h5 : (if m = 1 then M.toldE (M.outE e) l else l).length ≤ 30000 := by split <;> omega
        omega
theorem markOf_len (n : Int) : (M.markOf n).length ≤ 3 := by unfold M.markOf; (repeat' split) <;> simp
theorem aheadT_to (n : Int) (l : List UInt8) (h : M.markOf n = l) (w : World) : Calls Tryz.prog 64 #[.int .i64 n] w fun e w' => e = .returned (.string ⟨l.toArray⟩) ∧ Bel w w' := by
  have := ahead_any n w; rw [h] at this; exact this
theorem outT_to (n m : Int) (h : M.outE n = m) (w : World) : Calls Tryz.prog 57 #[.int .i64 n] w fun e w' => e = .returned (.int .i64 m) ∧ w = w' := by
  have := out_any n w; rw [h] at this; exact this
theorem recode_to (nm s : ByteArray) (e : Int) (l : List UInt8) (k : Int) (h : M.recT nm.data.toList s.data.toList e = (l, k)) (w : World) (hL : Len w) (htab : Tab w) : Calls Tryz.prog 30 #[.string nm, .string s, .int .i64 e] w fun r w' => r = .returned (.tuple #[.string ⟨l.toArray⟩, .int .i64 k]) ∧ Bel w w' := by
  by_cases hl : 3000 < nm.size ∨ 3000 < s.size
  · have HD := Lib.hid (show M.decT nm.data.toList s.data.toList = ([], 0, 0, 2) by rw [M.decT, ← Lib.size_eq, ← Lib.size_eq, if_pos hl])
    rw [M.recT, ← Lib.size_eq, ← Lib.size_eq, if_pos hl] at h
    simp only [Prod.mk.injEq] at h
    obtain ⟨rfl, rfl⟩ := h
    clear hl
    go_enter Tryz.func30, Tryz.ntmps30
    go_wp2_with fail
    refine (decodeT_to nm s _ _ _ _ HD.out _ hL).mono ?_
    rintro r w1 ⟨v, rfl, o1, b1⟩
    go_wp2_with fail
    go_ret2
    exact ⟨rfl, b1⟩
  · obtain ⟨xs, n, y, hw⟩ : ∃ xs n y, M.wholeM nm.data.toList s.data.toList = (xs, n, y) := ⟨_, _, _, rfl⟩
    have HD := Lib.hid (show M.decT nm.data.toList s.data.toList = (xs, n, y, 0) by rw [M.decT, ← Lib.size_eq, ← Lib.size_eq, if_neg hl, hw])
    rw [M.recT, ← Lib.size_eq, ← Lib.size_eq, if_neg hl, hw] at h
    simp only at h
    obtain ⟨t, x, ht⟩ : ∃ t x, M.encE e 1 xs = (t, x) := ⟨_, _, rfl⟩
    have hlen := encT_len e 1 xs
    rw [ht] at h hlen
    simp only at h hlen
    have HT := Lib.hid ht
    by_cases hx : x = 0
    · rw [if_neg (by simp [hx])] at h
      subst hx
      obtain ⟨o, ho⟩ : ∃ o, M.outE e = o := ⟨_, rfl⟩
      obtain ⟨mk, hm⟩ : ∃ mk, M.markOf o = mk := ⟨_, rfl⟩
      rw [ho, hm] at h
      have hml := markOf_len o
      rw [hm] at hml
      have HO := Lib.hid ho
      have HM := Lib.hid hm
      simp only [Prod.mk.injEq] at h
      obtain ⟨rfl, rfl⟩ := h
      have hsz1 : (⟨mk.toArray⟩ : ByteArray).size ≤ 3 := by rw [size_str]; exact hml
      have hsz2 : (⟨t.toArray⟩ : ByteArray).size ≤ 200000 := by rw [size_str]; exact hlen
      have hcat : (⟨mk.toArray⟩ : ByteArray) ++ ⟨t.toArray⟩ = ⟨(mk ++ t).toArray⟩ := by
        apply ByteArray.ext
        simp
      have HC := Lib.hid hcat
      clear hl hw ht ho hm hml hlen hcat
      go_enter Tryz.func30, Tryz.ntmps30
      go_wp2_with fail
      refine (decodeT_to nm s _ _ _ _ HD.out _ hL).mono ?_
      rintro r w1 ⟨v, rfl, o1, b1⟩
      go_wp2_with fail
      refine (enc_to e 1 v xs _ o1.ints (htab.bel b1) _ _ HT.out).mono ?_
      rintro r w2 ⟨rfl, b2⟩
      have b2 := b1.trans b2
      go_wp2_with fail
      refine (outT_to e _ HO.out _).mono ?_
      rintro r _ ⟨rfl, rfl⟩
      go_wp2_with fail
      refine (aheadT_to _ _ HM.out _).mono ?_
      rintro r w3 ⟨rfl, b3⟩
      have b3 := b2.trans b3
      go_wp2_with fail
      go_ret2
      exact ⟨by first | rfl | rw [HC.out], b3⟩
    · rw [if_pos hx] at h
      simp only [Prod.mk.injEq] at h
      obtain ⟨rfl, rfl⟩ := h
      have g1 : (x != 0) = true := by simpa using hx
      have g2 : (x == 0) = false := by simpa using hx
      clear hl hw ht hx hlen
      go_enter Tryz.func30, Tryz.ntmps30
      go_wp2_with fail
      refine (decodeT_to nm s _ _ _ _ HD.out _ hL).mono ?_
      rintro r w1 ⟨v, rfl, o1, b1⟩
      go_wp2_with fail
      refine (enc_to e 1 v xs _ o1.ints (htab.bel b1) _ _ HT.out).mono ?_
      rintro r w2 ⟨rfl, b2⟩
      have b2 := b1.trans b2
      go_wp2_with fail
      go_ret2
      exact ⟨rfl, b2⟩
end Go.Proofs.YteingkjdemlhgaaGreatDoor

/-
  What must be in any case, of fronts and whole texts: plain facts on constants.
-/
namespace Go.Proofs.YteingkjdemlhgaaGreatDoor.M
open Go
abbrev lab8 : Bs := [117, 116, 102, 45, 56]
theorem tb1 : decT [] [255, 254, 97, 0] = ([97], 2, 1, 0) := by decide +kernel
theorem tb2 : recT lab8 [226, 130, 172] 6 = ([38, 35, 56, 51, 54, 52, 59], 0) := by decide +kernel
theorem tb3 : countE [97, 65533, 228] = (1, 2, 0) := by decide +kernel
end Go.Proofs.YteingkjdemlhgaaGreatDoor.M

/-
  What must be in any case, of whole texts.
-/
namespace Go.Proofs.YteingkjdemlhgaaGreatDoor
open Go.RowKit
set_option maxRecDepth 1000000
theorem decodeT_sl (nm s : ByteArray) (xs : List Int) (n y k : Int) (h : M.decT nm.data.toList s.data.toList = (xs, n, y, k)) (w : World) (hL : Len w) : Calls Tryz.prog 14 #[.string nm, .string s] w fun e w' => ∃ A c, e = .returned (.tuple #[.slice A xs.length c, .int .i64 n, .int .i64 y, .int .i64 k]) ∧ Own w.heap.size 3 w' (.slice A xs.length c) (xs.map (Value.int .i64)) ∧ Bel w w' := by
  refine (decodeT_to nm s xs n y k h w hL).mono ?_
  rintro e w' ⟨v, rfl, ho, hb⟩
  obtain ⟨A, c, hv, _⟩ := ho.form
  rw [List.length_map] at hv
  subst hv
  exact ⟨A, c, rfl, ho, hb⟩
set_option maxHeartbeats 4000000 in
theorem textBegun_any (w : World) (hL : Len w) (htab : Tab w) : Calls Tryz.prog 12 #[] w fun e w' => e = .returned (.bool true) ∧ Bel w w' := by
  have f1 := Lib.hid M.tb1
  have f2 := Lib.hid M.tb2
  have f3 := Lib.hid M.tb3
  go_enter Tryz.func12, Tryz.ntmps12
  go_wp2_with fail
  refine (decodeT_sl ⟨#[]⟩ ⟨#[255, 254, 97, 0]⟩ [97] 2 1 0 f1.out _ hL).mono ?_
  rintro e w1 ⟨A1, c1, rfl, o1, b1⟩
  have i1 := o1.ints
  clear o1
  go_wp2_with fail
  refine (recode_to ⟨#[117, 116, 102, 45, 56]⟩ ⟨#[226, 130, 172]⟩ 6 [38, 35, 56, 51, 54, 52, 59] 0 f2.out _ (hL.bel b1) (htab.bel b1)).mono ?_
  rintro e w2 ⟨rfl, b2⟩
  have i1 := i1.bel b2
  have b2 := b1.trans b2
  go_wp2_with fail
  have il := IntSl.lit w2 3 [97, 65533, 228] (by decide)
  refine (count_to _ [97, 65533, 228] 1 2 0 f3.out _ il).mono ?_
  rintro e w3 ⟨rfl, b3⟩
  have b3 := ((Bel.refl w2).alloc (.cells #[.int .i64 97, .int .i64 65533, .int .i64 228] 3)).trans b3
  have i1 := i1.bel b3
  have b3 := b2.trans b3
  go_wp2_with fail
  have il := IntSl.lit w3 3 [97] (by decide)
  have i1 := i1.bel ((Bel.refl w3).alloc (.cells #[.int .i64 97] 3))
  refine (sameInts_yes _ _ _ _ _ i1 il rfl).mono ?_
  rintro e w4 ⟨rfl, b4⟩
  have b4 := ((Bel.refl w3).alloc (.cells #[.int .i64 97] 3)).trans b4
  go_wp2_with fail
  go_ret
  exact ⟨rfl, b3.trans b4⟩
end Go.Proofs.YteingkjdemlhgaaGreatDoor

/-
  The law TextRecode.
-/
namespace Go.Proofs.YteingkjdemlhgaaGreatDoor
open Go.RowKit
set_option maxRecDepth 1000000
set_option maxHeartbeats 4000000
theorem textRecode_no (nm ot s : ByteArray) (w : World) (htab : Tab w) (hL : Len w) (HD : Hid (M.decT nm.data.toList s.data.toList = ([], 0, 0, 2))) (HR : Hid (M.recT nm.data.toList s.data.toList 1 = ([], 2))) : Calls Tryz.prog 6 #[.string nm, .string ot, .string s] w fun e w' => e = .returned (.bool true) ∧ Bel w w' := by
  go_enter Tryz.func6, Tryz.ntmps6
  go_wp2_with fail
  refine (textBegun_any _ hL htab).mono ?_
  rintro e w1 ⟨rfl, b1⟩
  go_wp2_with fail
  refine (decodeT_sl nm s _ _ _ _ HD.out _ (hL.bel b1)).mono ?_
  rintro e w2 ⟨A2, c2, rfl, o2, b2⟩
  have b2 := b1.trans b2
  go_wp2_with fail
  refine (recode_to nm s 1 _ _ HR.out _ (hL.bel b2) (htab.bel b2)).mono ?_
  rintro e w3 ⟨rfl, b3⟩
  have i2 := o2.ints.bel b3
  have b3 := b2.trans b3
  clear o2 b1 b2
  go_wp2_with fail
  go_ret
  exact ⟨by first | rfl | simp, b3⟩
theorem textRecode_big (nm ot s : ByteArray) (w : World) (htab : Tab w) (hL : Len w) (xs : List Int) (n y : Int) (t : List UInt8) (HD : Hid (M.decT nm.data.toList s.data.toList = (xs, n, y, 0))) (HR : Hid (M.recT nm.data.toList s.data.toList 1 = (t, 0))) (hb : 3000 < t.length) : Calls Tryz.prog 6 #[.string nm, .string ot, .string s] w fun e w' => e = .returned (.bool true) ∧ Bel w w' := by
  go_enter Tryz.func6, Tryz.ntmps6
  go_wp2_with fail
  refine (textBegun_any _ hL htab).mono ?_
  rintro e w1 ⟨rfl, b1⟩
  go_wp2_with fail
  refine (decodeT_sl nm s _ _ _ _ HD.out _ (hL.bel b1)).mono ?_
  rintro e w2 ⟨A2, c2, rfl, o2, b2⟩
  have b2 := b1.trans b2
  go_wp2_with fail
  refine (recode_to nm s 1 _ _ HR.out _ (hL.bel b2) (htab.bel b2)).mono ?_
  rintro e w3 ⟨rfl, b3⟩
  have i2 := o2.ints.bel b3
  have b3 := b2.trans b3
  clear o2 b1 b2
  go_wp2_with fail
  go_ret
  exact ⟨by first | rfl | simp, b3⟩
theorem textRecode_other (nm ot s : ByteArray) (w : World) (htab : Tab w) (hL : Len w) (xs : List Int) (n y : Int) (t : List UInt8) (HD : Hid (M.decT nm.data.toList s.data.toList = (xs, n, y, 0))) (HR : Hid (M.recT nm.data.toList s.data.toList 1 = (t, 0))) (hb : t.length ≤ 3000) (ho : 3000 < ot.size) : Calls Tryz.prog 6 #[.string nm, .string ot, .string s] w fun e w' => e = .returned (.bool true) ∧ Bel w w' := by
  go_enter Tryz.func6, Tryz.ntmps6
  go_wp2_with fail
  refine (textBegun_any _ hL htab).mono ?_
  rintro e w1 ⟨rfl, b1⟩
  go_wp2_with fail
  refine (decodeT_sl nm s _ _ _ _ HD.out _ (hL.bel b1)).mono ?_
  rintro e w2 ⟨A2, c2, rfl, o2, b2⟩
  have b2 := b1.trans b2
  go_wp2_with fail
  refine (recode_to nm s 1 _ _ HR.out _ (hL.bel b2) (htab.bel b2)).mono ?_
  rintro e w3 ⟨rfl, b3⟩
  have i2 := o2.ints.bel b3
  have b3 := b2.trans b3
  clear o2 b1 b2
  go_wp2_with fail
  go_ret
  exact ⟨by first | rfl | simp, b3⟩
theorem textRecode_yes (nm ot s : ByteArray) (w : World) (htab : Tab w) (hL : Len w) (xs : List Int) (n y : Int) (t : List UInt8) (HD : Hid (M.decT nm.data.toList s.data.toList = (xs, n, y, 0))) (HR : Hid (M.recT nm.data.toList s.data.toList 1 = (t, 0))) (hb : t.length ≤ 3000) (ho : ot.size ≤ 3000)
    (HE : Hid (M.decT ot.data.toList (⟨t.toArray⟩ : ByteArray).data.toList = (xs, 1, 1, 0))) (HU : Hid (M.recT ot.data.toList (⟨t.toArray⟩ : ByteArray).data.toList 1 = (t, 0))) : Calls Tryz.prog 6 #[.string nm, .string ot, .string s] w fun e w' => e = .returned (.bool true) ∧ Bel w w' := by
  go_enter Tryz.func6, Tryz.ntmps6
  go_wp2_with fail
  refine (textBegun_any _ hL htab).mono ?_
  rintro e w1 ⟨rfl, b1⟩
  go_wp2_with fail
  refine (decodeT_sl nm s _ _ _ _ HD.out _ (hL.bel b1)).mono ?_
  rintro e w2 ⟨A2, c2, rfl, o2, b2⟩
  have b2 := b1.trans b2
  go_wp2_with fail
  refine (recode_to nm s 1 _ _ HR.out _ (hL.bel b2) (htab.bel b2)).mono ?_
  rintro e w3 ⟨rfl, b3⟩
  have i2 := o2.ints.bel b3
  have b3 := b2.trans b3
  clear o2 b1 b2
  go_wp2_with fail
  refine (decodeT_sl ot ⟨t.toArray⟩ _ _ _ _ HE.out _ (hL.bel b3)).mono ?_
  rintro e w4 ⟨A4, c4, rfl, o4, b4⟩
  have i2 := i2.bel b4
  have b4 := b3.trans b4
  go_wp2_with fail
  refine (recode_to ot ⟨t.toArray⟩ 1 _ _ HU.out _ (hL.bel b4) (htab.bel b4)).mono ?_
  rintro e w5 ⟨rfl, b5⟩
  have i2 := i2.bel b5
  have i4 := o4.ints.bel b5
  have b5 := b4.trans b5
  clear o4 b3 b4
  go_wp2_with fail
  refine (sameInts_yes _ _ _ _ _ i2 i4 rfl).mono ?_
  rintro e w6 ⟨rfl, b6⟩
  go_wp2_with fail
  go_ret
  exact ⟨by first | rfl | simp, b5.trans b6⟩
theorem textRecodeTrue (nm ot s : ByteArray) (w : World) (_ : nm.size ≤ reachBytes) (_ : ot.size ≤ reachBytes) (_ : s.size ≤ reachBytes) (htab : Tab w) (hL : Len w) : Calls Tryz.prog 6 #[.string nm, .string ot, .string s] w fun e w' => e = .returned (.bool true) ∧ Bel w w' := by
  by_cases hl : 3000 < nm.size ∨ 3000 < s.size
  · exact textRecode_no nm ot s w htab hL (Lib.hid (by rw [M.decT, ← Lib.size_eq, ← Lib.size_eq, if_pos hl])) (Lib.hid (by rw [M.recT, ← Lib.size_eq, ← Lib.size_eq, if_pos hl]))
  · have hn : nm.data.toList.length ≤ 3000 := by rw [← Lib.size_eq]; omega
    have hs : s.data.toList.length ≤ 3000 := by rw [← Lib.size_eq]; omega
    have h1 := M.recT_one nm.data.toList s.data.toList hn hs
    obtain ⟨xs, n, y, hw⟩ : ∃ xs n y, M.wholeM nm.data.toList s.data.toList = (xs, n, y) := ⟨_, _, _, rfl⟩
    have h2 := M.whole_again nm.data.toList ot.data.toList s.data.toList
    have hd : M.decT nm.data.toList s.data.toList = (xs, n, y, 0) := by rw [M.decT, ← Lib.size_eq, ← Lib.size_eq, if_neg hl, hw]
    rw [hw] at h1 h2
    simp only at h1 h2
    obtain ⟨t, ht⟩ : ∃ t, [239, 187, 191] ++ M.bytes8 xs = t := ⟨_, rfl⟩
    rw [ht] at h1 h2
    by_cases hb : 3000 < t.length
    · exact textRecode_big nm ot s w htab hL xs n y t (Lib.hid hd) (Lib.hid h1) hb
    · by_cases ho : 3000 < ot.size
      · exact textRecode_other nm ot s w htab hL xs n y t (Lib.hid hd) (Lib.hid h1) (by omega) ho
      · have hol : ot.data.toList.length ≤ 3000 := by rw [← Lib.size_eq]; omega
        have htl : t.length ≤ 3000 := by omega
        have h3 := M.recT_one ot.data.toList t hol htl
        rw [h2] at h3
        simp only at h3
        rw [ht] at h3
        exact textRecode_yes nm ot s w htab hL xs n y t (Lib.hid hd) (Lib.hid h1) (by omega) (by omega) (Lib.hid (by rw [M.decT, if_neg (by show ¬ (3000 < _ ∨ 3000 < t.length); omega)]; show ((M.wholeM ot.data.toList t).1, (M.wholeM ot.data.toList t).2.1, (M.wholeM ot.data.toList t).2.2, (0 : Int)) = _; rw [h2])) (Lib.hid h3)
end Go.Proofs.YteingkjdemlhgaaGreatDoor

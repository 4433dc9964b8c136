/-
  Package single: what Raw and Encode compute: the map from code points to bytes.
-/
import Derived.Test.YtbddfefcgfenfaaDoorSingle
namespace Go.Proofs.YtbddfefcgfenfaaDoor
open Go.RowKit Go.Maps

theorem lawInt : Keyed Tryd.prog 3 := int_keyed Tryd.underlying3
theorem zeroInt (w : World) : (zeroValue 3).run Tryd.prog w = .ok (.int .i64 0) w := by kernel_rfl
theorem ownsMap_keep {w w' : World} {b n : Nat} {D : DataW Unit} (h : w.ownsMap Tryd.prog 3 (plainElem Tryd.prog 3) b n D) (hk : w'.heap[b]? = w.heap[b]?) : w'.ownsMap Tryd.prog 3 (plainElem Tryd.prog 3) b n D := by
  obtain ⟨es, c, h1, h2⟩ := h
  exact ⟨es, c, hk.trans h1, h2⟩
theorem pointOf_bounds (user : Bool) (k : Nat) (hk : k < 256) : 0 ≤ M.pointOf user k ∧ M.pointOf user k ≤ 65535 := by
  unfold M.pointOf
  split
  · omega
  · split
    · omega
    · split
      · have : ∀ j, j < 32 → 0 ≤ M.high[j]?.getD 0 ∧ M.high[j]?.getD 0 ≤ 65535 := by decide
        exact this _ (by omega)
      · omega

theorem cells_bel {w w' : World} {a : Option Addr} {xs : List Int} (h : ∀ x, a = some x → ∀ i n, xs[i]? = some n → w.cell? (x.add i) = some (.int .i64 n)) (hb : Bel w w') : ∀ x, a = some x → ∀ i n, xs[i]? = some n → w'.cell? (x.add i) = some (.int .i64 n) := by
  intro x hx i n hn
  have := h x hx i n hn
  exact (hb.cell (World.block_lt_of_cell? w _ this)).trans this
theorem grown_trans {a b c : World} {row : Option Nat} (h : a.grownBy b row) (k : b.grownBy c row) : a.grownBy c row :=
  ⟨k.os.trans h.os, k.tape.trans h.tape, k.output.trans h.output, Nat.le_trans h.size k.size, fun i hi hne => (k.block i (Nat.lt_of_lt_of_le hi h.size) hne).trans (h.block i hi hne)⟩

/-- 'v, ok := m[k]' where both are known. -/
theorem wpList_look {P : Program} {w : World} {ops : Array Oper} {rest : List Oper} {o : Oper} {a : Act} {Q : Exit → Act → World → Prop} (hg : o.guard = none) (m x : Operand) (t : TypeId) (hop : o.op = Op.lookup t m x true)
    (k e : TypeId) (K : Keyed P k) (ht : P.underlying t = some (.map k e)) (he : P.underlying e = some (.int .i64)) (hz : (zeroValue e).run P w = .ok (.int .i64 0) w) (b n : Nat) (D : DataW Unit)
    (hm : a.eval m = .map (some b)) (hown : w.ownsMap P k (plainElem P e) b n D) (key : Value) (kl : Lit) (hx : a.eval x = key) (hkey : keyOf P k key = some kl)
    (c0 : Int) (hc : D.atKey kl (.lit (.int .i64 0)) = .lit (.int .i64 c0)) (bo : Bool) (hb : Maps.has D kl = bo)
    (h : wpList P ops Q rest (a.put o.dst (.tuple #[.int .i64 c0, .bool bo])) w) : wpList P ops Q (o :: rest) a w := by
  refine wpList_lookup_own_ok_int w hg m x t hop k e .i64 K ht he hz b n D hm hown key kl hx hkey (fun c hat _ => ?_)
  rw [hc] at hat
  injection hat with hat
  injection hat with _ hat
  rw [← hat, hb]
  exact h

set_option maxRecDepth 100000 in
theorem raw_any (user : Bool) (v : Value) (xs : List Int) (w : World) (hv : IntSl w v xs) (hlen : xs.length ≤ 1000000) (hbd : ∀ n ∈ xs, -9223372036854775808 ≤ n ∧ n ≤ 9223372036854775807) :
    Calls Tryd.prog 98 #[.bool user, v] w fun e w' => e = .returned (.tuple #[.string ⟨(M.rawS user xs).1.toArray⟩, .int .i64 (M.rawS user xs).2]) ∧ Bel w w' := by
  obtain ⟨a, ca, rfl, hc1, hc2, hn, hx⟩ := hv
  unfold maxLen at hc2
  have hmm := @run_makeMap Tryd.prog
  go_enter Tryd.func98, Tryd.ntmps98
  go_wp2_with (go_at_call 131; refine (table_row _ _).mono ?_; rintro e w' ⟨g, c, rfl, hc3, hc4, hg0, hg, hcell, hi, hb⟩; clear hi)
  have hb0 : Bel (w.alloc (.map #[] 0)) w' := by assumption
  have hmg : w.heap.size < w'.heap.size := hb0.lt (by simp)
  have hbw : Bel w w' := ((Bel.refl w).alloc _).trans hb0
  have hne : g ≠ w.heap.size := by
    have : w.heap.size + 1 ≤ g := by simpa using hg0
    omega
  go_loopw [18] (fun i wr => ∃ k : Nat, k ≤ 256 ∧ i = .int .i64 k ∧ wr.ownsMap Tryd.prog 3 (plainElem Tryd.prog 3) w.heap.size k (M.Dk user k) ∧ w'.grownBy wr (some w.heap.size)) (fun i _ => 256 - (intOf i).toNat)
  case atStart => 
    refine ⟨0, by omega, rfl, ?_, World.grownBy.refl _ _⟩
    exact ownsMap_keep (World.ownsMap_made _ _ _ _) (hb0.block _ (by simp))
  case round => 
    obtain ⟨k, hk, rfl, hown, hgr⟩ := hrel
    by_cases hlt : k < 256
    · have hp := pointOf_bounds user k hlt
      have hck : wr.cell? ⟨g, k, none⟩ = some (.int .i64 (M.pointOf user k)) := hgr.cell (hcell k hlt) (by intro e; injection e with e; exact hne e)
      have hkey : keyOf Tryd.prog 3 (.int .i64 (M.pointOf user k)) = some (.int .i64 (M.pointOf user k)) := keyOf_int_mk Tryd.underlying3 (WalkArith.wf_i64 (by omega))
      have hval : plainElem (H := Unit) Tryd.prog 3 (.int .i64 (k : Int)) = some (.lit (.int .i64 (k : Int)), []) := plainElem_int Tryd.underlying3 (WalkArith.wf_i64 (by omega))
      clear hcell hx hn
      go_wp2_with (first | (at_mapUpdate; refine wpList_mapUpdate_own _ rfl _ _ _ 137 rfl 3 3 lawInt Tryd.underlying137 _ w.heap.size k _ rfl hown (by unfold maxLen; omega) _ _ _ rfl rfl hkey _ [] hval ?_; intro w1 hown1 hgrow1))
      go_roundw
      case rel => exact ⟨k + 1, by omega, by go_num, hown1, grown_trans hgr hgrow1⟩
      case measure => simp [intOf]; omega
    · obtain rfl : k = 256 := by omega
      have hbr : Bel w wr := hbw.upto ((Below.refl w.heap.size w').grown hgr hbw.size (fun j hj => by cases hj; exact Nat.le_refl _)) (Nat.le_refl _)
      have hmr : w.heap.size < wr.heap.size := Nat.lt_of_lt_of_le hmg hgr.size
      have hx2 := cells_bel hx hbr
      clear hcell hx
      obtain ⟨wm, rfl⟩ : ∃ wo : World, wo = wr := ⟨_, rfl⟩
      go_wp2_with fail
      go_loopw [9, 29] (fun v i wr => ∃ k : Nat, k ≤ xs.length ∧ i = .int .i64 k ∧ ∃ l, Hid (M.encodeS user (xs.take k) = some l) ∧ l.length ≤ k ∧ Own wm.heap.size 5 wr v (l.map byteVal) ∧ Below wm.heap.size wm wr) (fun _ i _ => xs.length - (intOf i).toNat)
      case atStart => exact ⟨0, by omega, rfl, [], Lib.hid rfl, by simp, Own.nil _ _ _, Below.refl _ _⟩
      case round =>
        obtain ⟨k, hk, rfl, l, HL, hl, hownl, hbl⟩ := hrel
        by_cases hlt : k < xs.length
        · obtain ⟨n, hn1⟩ : ∃ n, xs[k]? = some n := ⟨_, List.getElem?_eq_getElem hlt⟩
          cases a with
          | none => rw [hn rfl] at hlt; simp at hlt
          | some x =>
            have hcx : wm.cell? (x.add k) = some (.int .i64 n) := hx2 x rfl k n hn1
            have hcell : wr.cell? (x.add k) = some (.int .i64 n) := (hbl.cell (World.block_lt_of_cell? wm _ hcx)).trans hcx
            have hwn := hbd n (List.mem_of_getElem? hn1)
            have hkey : keyOf Tryd.prog 3 (.int .i64 n) = some (.int .i64 n) := keyOf_int_mk Tryd.underlying3 (WalkArith.wf_i64 (by omega))
            have hownM := ownsMap_keep hown (hbl.block _ hmr)
            rcases M.byteOf_cases user n with ⟨hb1, hno⟩ | ⟨j, hj, hb1, hpj⟩
            · have hhas : Maps.has (M.Dk user 256) (.int .i64 n) = false := M.Dk_miss user n 256 hno
              have HR := Lib.hid (show M.rawS user xs = ([], 5) by rw [M.rawS, M.encodeS_miss user xs k n hn1 hb1])
              have Hhas := Lib.hid hhas
              have Hat := Lib.hid (Maps.atKey_of_not_has hhas (.lit (.int .i64 0)))
              clear hx2 hn hno hbd hn1 hb1 hcx hhas
              go_wp2_with (first | (at_lookup; refine wpList_look rfl _ _ 137 rfl 3 3 lawInt Tryd.underlying137 Tryd.underlying3 (zeroInt _) w.heap.size 256 _ rfl hownM _ _ rfl hkey 0 Hat.out false Hhas.out ?_))
              go_ret2
              rw [HR.out]
              exact ⟨rfl, hbr.upto hbl hbr.size⟩
            · obtain ⟨hhas, hat0⟩ := M.Dk_hit user n j hpj 256 (Nat.le_refl _) hj
              have HV := Lib.hid (show [UInt8.ofNat j].map byteVal = [.int .u8 (j : Int)] by simp [byteVal]; omega)
              have hB : wm.heap.size ≤ wr.heap.size := hbl.size
              have HE := Lib.hid (M.encodeS_hit user xs k n j l hn1 hb1 HL.out)
              have Hhas := Lib.hid hhas
              have Hat := Lib.hid (hat0 (.lit (.int .i64 0)))
              clear hx2 hn hbd hn1 hb1 hcx hpj hhas hat0
              go_wp2_with (first | (at_lookup; refine wpList_look rfl _ _ 137 rfl 3 3 lawInt Tryd.underlying137 Tryd.underlying3 (zeroInt _) w.heap.size 256 _ rfl hownM _ _ rfl hkey (j : Int) Hat.out true Hhas.out ?_) | (at_builtin; refine wpList_app rfl (.tmp 41) (.tmp 44) 34 rfl elemByte (by decide) wm.heap.size _ _ _ rfl rfl hownl rfl (by simp; omega) (by first | exact Nat.le_refl _ | assumption | (have := hb.size; omega)) ?_; intro v' w1 hown' hb1))
              go_roundw
              case rel =>
                have HO : Own wm.heap.size 5 w1 v' ((l ++ [UInt8.ofNat j]).map byteVal) := by rw [List.map_append, HV.out]; exact hown'
                first | exact ⟨k + 1, by omega, by go_num, _, HE, by simp; omega, HO, hbl.trans hb1⟩ | ((repeat apply Exists.intro); exact ⟨⟨k + 1, by omega, by go_num, _, HE, by simp; omega, HO, hbl.trans hb1⟩, rfl⟩)
              case measure => simp [intOf]; omega
        · obtain rfl : k = xs.length := by omega
          have HR := Lib.hid (show M.rawS user xs = (l, 0) by rw [M.rawS, ← List.take_length (l := xs), HL.out])
          go_wp2_with (first | ((with_reducible show wpList _ _ _ _ _ _); refine wpList_toString rfl (.tmp 47) _ _ 5 rfl Tryd.underlying34 Tryd.underlying5 Tryd.underlying9 wm.heap.size _ l rfl hownl ?_))
          go_ret2
          rw [HR.out]
          exact ⟨rfl, hbr.upto hbl hbr.size⟩
end Go.Proofs.YtbddfefcgfenfaaDoor

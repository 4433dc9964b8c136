/-
  Package single: what Raw and Encode compute: the map from code points to bytes.
-/
import Derived.Test.YthjafhoahhdlnaaSingle
namespace Go.Proofs.Ythjafhoahhdlnaa
open Go.RowKit Go.Maps

theorem lawInt : Keyed Try.prog 3 := int_keyed Try.underlying3
theorem zeroInt (w : World) : (zeroValue 3).run Try.prog w = .ok (.int .i64 0) w := by kernel_rfl
theorem ownsMap_keep {w w' : World} {b n : Nat} {D : DataW Unit} (h : w.ownsMap Try.prog 3 (plainElem Try.prog 3) b n D) (hk : w'.heap[b]? = w.heap[b]?) : w'.ownsMap Try.prog 3 (plainElem Try.prog 3) b n D := by
  obtain ⟨es, c, h1, h2⟩ := h
  exact ⟨es, c, hk.trans h1, h2⟩
theorem pointOf_bounds (user : Bool) (k : Nat) (hk : k < 256) : 0 ≤ M.pointOf user k ∧ M.pointOf user k ≤ 65535 := by
  unfold M.pointOf
  split
  · omega
  · split
    · omega
    · split
      · have : ∀ j, j < 32 → 0 ≤ M.high[j]?.getD 0 ∧ M.high[j]?.getD 0 ≤ 65535 := by decide
        exact this _ (by omega)
      · omega

theorem cells_bel {w w' : World} {a : Option Addr} {xs : List Int} (h : ∀ x, a = some x → ∀ i n, xs[i]? = some n → w.cell? (x.add i) = some (.int .i64 n)) (hb : Bel w w') : ∀ x, a = some x → ∀ i n, xs[i]? = some n → w'.cell? (x.add i) = some (.int .i64 n) := by
  intro x hx i n hn
  have := h x hx i n hn
  exact (hb.cell (World.block_lt_of_cell? w _ this)).trans this
theorem grown_trans {a b c : World} {row : Option Nat} (h : a.grownBy b row) (k : b.grownBy c row) : a.grownBy c row :=
  ⟨k.os.trans h.os, k.tape.trans h.tape, k.output.trans h.output, Nat.le_trans h.size k.size, fun i hi hne => (k.block i (Nat.lt_of_lt_of_le hi h.size) hne).trans (h.block i hi hne)⟩

/-- 'v, ok := m[k]' where both are known. -/
theorem wpList_look {P : Program} {w : World} {ops : Array Oper} {rest : List Oper} {o : Oper} {a : Act} {Q : Exit → Act → World → Prop} (hg : o.guard = none) (m x : Operand) (t : TypeId) (hop : o.op = Op.lookup t m x true)
    (k e : TypeId) (K : Keyed P k) (ht : P.underlying t = some (.map k e)) (he : P.underlying e = some (.int .i64)) (hz : (zeroValue e).run P w = .ok (.int .i64 0) w) (b n : Nat) (D : DataW Unit)
    (hm : a.eval m = .map (some b)) (hown : w.ownsMap P k (plainElem P e) b n D) (key : Value) (kl : Lit) (hx : a.eval x = key) (hkey : keyOf P k key = some kl)
    (c0 : Int) (hc : D.atKey kl (.lit (.int .i64 0)) = .lit (.int .i64 c0)) (bo : Bool) (hb : Maps.has D kl = bo)
    (h : wpList P ops Q rest (a.put o.dst (.tuple #[.int .i64 c0, .bool bo])) w) : wpList P ops Q (o :: rest) a w := by
  refine wpList_lookup_own_ok_int w hg m x t hop k e .i64 K ht he hz b n D hm hown key kl hx hkey (fun c hat _ => ?_)
  rw [hc] at hat
  injection hat with hat
  injection hat with _ hat
  rw [← hat, hb]
  exact h

end Go.Proofs.Ythjafhoahhdlnaa

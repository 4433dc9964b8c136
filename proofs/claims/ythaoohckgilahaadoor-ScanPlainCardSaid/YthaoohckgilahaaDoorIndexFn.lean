/-
  slices.IndexFunc at structs of two cells, whatever the predicate; a string out of cells that are known one by one.
-/
import Derived.Test.YthaoohckgilahaaDoorBase7
import Derived.Deep.LoopGhost
import Derived.Shelf.Abstract
namespace Go.Proofs.YthaoohckgilahaaDoor
open Go.RowKit
set_option maxRecDepth 1000000

/-- The first place at which p holds; -1: none does. -/
def FirstAt (n : Nat) (p : Nat → Bool) (r : Int) : Prop := (r = -1 ∧ ∀ j, j < n → p j = false) ∨ ∃ k : Nat, k < n ∧ r = k ∧ p k = true ∧ ∀ j, j < k → p j = false
theorem ixLabel (b off n c : Nat) (zs : Nat → Value × Value) (p : Nat → Bool) (g : Nat) (lb : Array Value) (eg : ∀ args w, (callFunc g args).run Tryd.prog w = .ok (.enter g args) w) (w : World)
    (hp : ∀ (W : World) (j : Nat), j < n → Below w.heap.size w W → Calls Tryd.prog g (#[.agg #[(zs j).1, (zs j).2]] ++ lb) W fun e w' => e = .returned (.bool (p j)) ∧ Below w.heap.size w w')
    (hbig : n ≤ 9223372036854775807) (hb : b < w.heap.size) (hc : ∀ j, j < n → w.cell? ⟨b, off + j * 2, none⟩ = some (zs j).1 ∧ w.cell? ⟨b, off + j * 2 + 1, none⟩ = some (zs j).2) :
    Calls Tryd.prog 63 #[.slice (some ⟨b, off, none⟩) n c, .func (.func g) #[] lb] w fun e w' => (∃ r : Int, e = .returned (.int .i64 r) ∧ FirstAt n p r) ∧ Below w.heap.size w w' := by
  have hrow : ∀ (W : World), Below w.heap.size w W → ∀ j, j < n → W.cell? ⟨b, off + j * 2, none⟩ = some (zs j).1 ∧ W.cell? ⟨b, off + j * 2 + 1, none⟩ = some (zs j).2 := fun W hW j hj => by
    have h1 := hc j hj
    exact ⟨(hW.cell (p := ⟨b, off + j * 2, none⟩) hb).trans h1.1, (hW.cell (p := ⟨b, off + j * 2 + 1, none⟩) hb).trans h1.2⟩
  clear hc
  go_enter Tryd.func63, Tryd.ntmps63
  go_wp2
  go_loopg [5, 8] n (fun gg _ s8 wr => ∃ kk : Nat, kk ≤ n ∧ n - kk ≤ gg ∧ s8 = .int .i64 kk ∧ Aside (Below w.heap.size w wr) ∧ Aside (∀ j, j < kk → p j = false))
  case atStart => exact ⟨0, Nat.zero_le _, by omega, rfl, Below.refl _ w, fun j hj => absurd hj (Nat.not_lt_zero _)⟩
  case round =>
    obtain ⟨kk, hkk, hg, rfl, BW, A⟩ := hrel
    by_cases hlt : kk < n
    · have hltz : (kk : Int) < (n : Int) := by omega
      obtain ⟨l1, l2⟩ := hrow wr BW.out kk (by omega)
      have hcall := hp wr kk hlt BW.out
      clear hrow hp
      generalize (zs kk) = y at l1 l2 hcall
      obtain ⟨y1, y2⟩ := y
      simp only at l1 l2 hcall
      cases hq : p kk with
      | true =>
        rw [hq] at hcall
        have HQ := Lib.hid hq
        clear hq
        go_wp2_with (go_at_fn g; refine hcall.mono ?_; rintro e w' ⟨rfl, hb'⟩)
        go_ret
        exact ⟨⟨kk, rfl, .inr ⟨kk, hlt, rfl, HQ.out, A.out⟩⟩, hb'⟩
      | false =>
        rw [hq] at hcall
        have HQ := Lib.hid hq
        clear hq
        go_wp2_with (go_at_fn g; refine hcall.mono ?_; rintro e w' ⟨rfl, hb'⟩)
        go_roundg (n - (kk + 1))
        case measure => omega
        case rel =>
          refine ⟨kk + 1, by omega, by omega, by go_num, hb', (show Aside _ from fun j hj => ?_)⟩
          by_cases e : j = kk
          · subst e
            exact HQ.out
          · exact A.out j (by omega)
    · have hltz : ¬ (kk : Int) < (n : Int) := by omega
      have : kk = n := by omega
      subst this
      go_wp2
      go_ret
      exact ⟨⟨-1, rfl, .inl ⟨rfl, A.out⟩⟩, BW.out⟩
/-- 'string(b)' where the cells of b are known one by one. -/
theorem wpList_toStringC {P : Program} {w : World} {ops : Array Oper} {rest : List Oper} {o : Oper} {a : Act} {Q : Exit → Act → World → Prop} (hgd : o.guard = none) (x : Operand) (src dst e : TypeId)
    (ho : o.op = .convert src dst x) (hs : P.underlying src = some (.slice e)) (he : P.underlying e = some (.int .u8)) (hd : P.underlying dst = some .string) (g c : Nat) (l : List UInt8) (hx : a.eval x = .slice (some ⟨g, 0, none⟩) l.length c)
    (hc : ∀ j b, l[j]? = some b → w.cell? ⟨g, j, none⟩ = some (byteVal b))
    (h : wpList P ops Q rest (a.put o.dst (.string ⟨l.toArray⟩)) w) : wpList P ops Q (o :: rest) a w := by
  refine wpList_plain hgd fun K hK => ?_
  have hr : (convert src dst (.slice (some ⟨g, 0, none⟩) l.length c)).run P w = .ok (.string ⟨l.toArray⟩) w :=
    run_convert_bytes_back w src dst e ⟨g, 0, none⟩ c l hs he hd (fun j hj => by
      rw [add_zero]
      exact hc j _ (List.getElem?_eq_getElem hj))
  unfold Oper.wp execOp
  simp only [ho, Sem.run_bind, Sem.run_pure, Result.andThen_ok, hx, hr]
  exact hK _ _ h
end Go.Proofs.YthaoohckgilahaaDoor

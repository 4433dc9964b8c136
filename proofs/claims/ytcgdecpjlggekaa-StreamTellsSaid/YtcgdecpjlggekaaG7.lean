/-
  Texts of the proof, laid together: AggS. No condition of its own.
-/
import Derived.WalkKit
import Derived.ProofKit
import Derived.Deep.Fields
import Derived.ChangeSame
import Derived.Test.YtcgdecpjlggekaaG5

/-
  An argument that is a state, by value: five fields of one cell.
-/
namespace Go.Proofs.Ytcgdecpjlggekaa
set_option maxRecDepth 100000
open Go.ChangeShapes Go.WideShapes Go.Deep

theorem cStS : Try.prog.cellsOf 23 = 5 := by kernel_rfl
theorem cStrS : Try.prog.cellsOf 9 = 1 := by kernel_rfl
theorem cIntS : Try.prog.cellsOf 3 = 1 := by kernel_rfl
theorem cBoolS : Try.prog.cellsOf 4 = 1 := by kernel_rfl
theorem open_state {H : Type} {enc : TypeId × Value → H} {w : World} {base : Nat} {spare : Nat → Bool} {held : Bool} {r : Reach} {b0 : Nat} {v : Value} {d : DataW H} {p : List MemPlace}
    (hv : Value.okWide Try.prog w r b0 23 v) (h : DataW.Trod enc Try.prog w base spare held 23 v d p) :
    ∃ (se : Int) (rs : ByteArray) (sg : Int) (fr st : Bool), v = .agg #[.int .i64 se, .string rs, .int .i64 sg, .bool fr, .bool st] := by
  obtain ⟨⟨l⟩, rfl, hsz⟩ := okWide_struct Try.underlying23 hv
  have hsz : l.length = 5 := hsz.trans cStS
  obtain ⟨fuel, hf⟩ := h
  obtain ⟨xs, n, _, _, _, hlen, hg⟩ := DataW.trod_struct Try.underlying23 hf
  match l, hsz with
  | [c0, c1, c2, c3, c4], _ =>
    have k0 := hg 0 _ rfl
    have k1 := hg 1 _ rfl
    have k2 := hg 2 _ rfl
    have k3 := hg 3 _ rfl
    have k4 := hg 4 _ rfl
    have hx0 : ∃ x, xs[0]? = some x := ⟨_, List.getElem?_eq_getElem (by rw [hlen]; decide)⟩
    have hx1 : ∃ x, xs[1]? = some x := ⟨_, List.getElem?_eq_getElem (by rw [hlen]; decide)⟩
    have hx2 : ∃ x, xs[2]? = some x := ⟨_, List.getElem?_eq_getElem (by rw [hlen]; decide)⟩
    have hx3 : ∃ x, xs[3]? = some x := ⟨_, List.getElem?_eq_getElem (by rw [hlen]; decide)⟩
    have hx4 : ∃ x, xs[4]? = some x := ⟨_, List.getElem?_eq_getElem (by rw [hlen]; decide)⟩
    obtain ⟨x0, hx0⟩ := hx0
    obtain ⟨x1, hx1⟩ := hx1
    obtain ⟨x2, hx2⟩ := hx2
    obtain ⟨x3, hx3⟩ := hx3
    obtain ⟨x4, hx4⟩ := hx4
    rw [hx0] at k0
    rw [hx1] at k1
    rw [hx2] at k2
    rw [hx3] at k3
    rw [hx4] at k4
    obtain ⟨se, i4, _⟩ := DataW.trod_int Try.underlying3 k0
    obtain ⟨rs, i5, _⟩ := DataW.trod_string Try.underlying9 k1
    obtain ⟨sg, i6, _⟩ := DataW.trod_int Try.underlying3 k2
    obtain ⟨fr, i7, _⟩ := DataW.trod_bool Try.underlying4 k3
    obtain ⟨st, i8, _⟩ := DataW.trod_bool Try.underlying4 k4
    have i4j : [c0] = [Value.int .i64 se] := (congrArg (fun m => List.take m (List.drop 0 [c0, c1, c2, c3, c4])) cIntS).symm.trans i4
    have i5j : [c1] = [Value.string rs] := (congrArg (fun m => List.take m (List.drop 1 [c0, c1, c2, c3, c4])) cStrS).symm.trans i5
    have i6j : [c2] = [Value.int .i64 sg] := (congrArg (fun m => List.take m (List.drop 2 [c0, c1, c2, c3, c4])) cIntS).symm.trans i6
    have i7j : [c3] = [Value.bool fr] := (congrArg (fun m => List.take m (List.drop 3 [c0, c1, c2, c3, c4])) cBoolS).symm.trans i7
    have i8j : [c4] = [Value.bool st] := (congrArg (fun m => List.take m (List.drop 4 [c0, c1, c2, c3, c4])) cBoolS).symm.trans i8
    obtain rfl : c0 = Value.int .i64 se := by injection i4j
    obtain rfl : c1 = Value.string rs := by injection i5j
    obtain rfl : c2 = Value.int .i64 sg := by injection i6j
    obtain rfl : c3 = Value.bool fr := by injection i7j
    obtain rfl : c4 = Value.bool st := by injection i8j
    exact ⟨se, rs, sg, fr, st, rfl⟩
end Go.Proofs.Ytcgdecpjlggekaa

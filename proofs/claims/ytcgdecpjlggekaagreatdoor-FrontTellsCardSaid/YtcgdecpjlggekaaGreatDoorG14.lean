/-
  Texts of the proof, laid together: AggF. No condition of its own.
-/
import Derived.WalkKit
import Derived.ProofKit
import Derived.Deep.Fields
import Derived.ChangeSame
import Derived.Test.YtcgdecpjlggekaaGreatDoorG5

/-
  An argument that is a front, by value: four fields of one cell and a state.
-/
namespace Go.Proofs.YtcgdecpjlggekaaGreatDoor
set_option maxRecDepth 100000
open Go.ChangeShapes Go.WideShapes Go.Deep

theorem cF : Tryz.prog.cellsOf 25 = 9 := by kernel_rfl
theorem cS : Tryz.prog.cellsOf 23 = 5 := by kernel_rfl
theorem cStr : Tryz.prog.cellsOf 9 = 1 := by kernel_rfl
theorem cInt : Tryz.prog.cellsOf 3 = 1 := by kernel_rfl
theorem cBool : Tryz.prog.cellsOf 4 = 1 := by kernel_rfl
theorem open_front {H : Type} {enc : TypeId × Value → H} {w : World} {base : Nat} {spare : Nat → Bool} {held : Bool} {r : Reach} {b0 : Nat} {v : Value} {d : DataW H} {p : List MemPlace}
    (hv : Value.okWide Tryz.prog w r b0 25 v) (h : DataW.Trod enc Tryz.prog w base spare held 25 v d p) :
    ∃ (lb : ByteArray) (en wy : Int) (wt : ByteArray) (se : Int) (rs : ByteArray) (sg : Int) (fr st : Bool), v = .agg #[.string lb, .int .i64 en, .int .i64 wy, .string wt, .int .i64 se, .string rs, .int .i64 sg, .bool fr, .bool st] := by
  obtain ⟨⟨l⟩, rfl, hsz⟩ := okWide_struct Tryz.underlying25 hv
  have hsz : l.length = 9 := hsz.trans cF
  obtain ⟨fuel, hf⟩ := h
  obtain ⟨xs, n, _, _, _, hlen, hg⟩ := DataW.trod_struct Tryz.underlying25 hf
  match l, hsz with
  | [c0, c1, c2, c3, c4, c5, c6, c7, c8], _ =>
    have g0 := hg 0 _ rfl
    have g1 := hg 1 _ rfl
    have g2 := hg 2 _ rfl
    have g3 := hg 3 _ rfl
    have g4 := hg 4 _ rfl
    have hx0 : ∃ x, xs[0]? = some x := ⟨_, List.getElem?_eq_getElem (by rw [hlen]; decide)⟩
    have hx1 : ∃ x, xs[1]? = some x := ⟨_, List.getElem?_eq_getElem (by rw [hlen]; decide)⟩
    have hx2 : ∃ x, xs[2]? = some x := ⟨_, List.getElem?_eq_getElem (by rw [hlen]; decide)⟩
    have hx3 : ∃ x, xs[3]? = some x := ⟨_, List.getElem?_eq_getElem (by rw [hlen]; decide)⟩
    have hx4 : ∃ x, xs[4]? = some x := ⟨_, List.getElem?_eq_getElem (by rw [hlen]; decide)⟩
    obtain ⟨x0, hx0⟩ := hx0
    obtain ⟨x1, hx1⟩ := hx1
    obtain ⟨x2, hx2⟩ := hx2
    obtain ⟨x3, hx3⟩ := hx3
    obtain ⟨x4, hx4⟩ := hx4
    rw [hx0] at g0
    rw [hx1] at g1
    rw [hx2] at g2
    rw [hx3] at g3
    rw [hx4] at g4
    have g4 := (congrArg (fun m => DataW.trod enc Tryz.prog w base spare held n 23 (List.take m (List.drop 4 [c0, c1, c2, c3, c4, c5, c6, c7, c8]))) cS).symm.trans g4
    obtain ⟨lb, i0, _⟩ := DataW.trod_string Tryz.underlying9 g0
    obtain ⟨en, i1, _⟩ := DataW.trod_int Tryz.underlying3 g1
    obtain ⟨wy, i2, _⟩ := DataW.trod_int Tryz.underlying3 g2
    obtain ⟨wt, i3, _⟩ := DataW.trod_string Tryz.underlying9 g3
    obtain ⟨ys, m, _, _, _, hlen2, hg2⟩ := DataW.trod_struct Tryz.underlying23 g4
    have k0 := hg2 0 _ rfl
    have k1 := hg2 1 _ rfl
    have k2 := hg2 2 _ rfl
    have k3 := hg2 3 _ rfl
    have k4 := hg2 4 _ rfl
    rw [List.getElem?_eq_getElem (by rw [hlen2]; decide)] at k0 k1 k2 k3 k4
    obtain ⟨se, i4, _⟩ := DataW.trod_int Tryz.underlying3 k0
    obtain ⟨rs, i5, _⟩ := DataW.trod_string Tryz.underlying9 k1
    obtain ⟨sg, i6, _⟩ := DataW.trod_int Tryz.underlying3 k2
    obtain ⟨fr, i7, _⟩ := DataW.trod_bool Tryz.underlying4 k3
    obtain ⟨st, i8, _⟩ := DataW.trod_bool Tryz.underlying4 k4
    have i0j : [c0] = [Value.string lb] := (congrArg (fun m => List.take m (List.drop 0 [c0, c1, c2, c3, c4, c5, c6, c7, c8])) cStr).symm.trans i0
    have i1j : [c1] = [Value.int .i64 en] := (congrArg (fun m => List.take m (List.drop 1 [c0, c1, c2, c3, c4, c5, c6, c7, c8])) cInt).symm.trans i1
    have i2j : [c2] = [Value.int .i64 wy] := (congrArg (fun m => List.take m (List.drop 2 [c0, c1, c2, c3, c4, c5, c6, c7, c8])) cInt).symm.trans i2
    have i3j : [c3] = [Value.string wt] := (congrArg (fun m => List.take m (List.drop 3 [c0, c1, c2, c3, c4, c5, c6, c7, c8])) cStr).symm.trans i3
    have i4j : [c4] = [Value.int .i64 se] := (congrArg (fun m => List.take m (List.drop 0 (List.take 5 (List.drop 4 [c0, c1, c2, c3, c4, c5, c6, c7, c8])))) cInt).symm.trans i4
    have i5j : [c5] = [Value.string rs] := (congrArg (fun m => List.take m (List.drop 1 (List.take 5 (List.drop 4 [c0, c1, c2, c3, c4, c5, c6, c7, c8])))) cStr).symm.trans i5
    have i6j : [c6] = [Value.int .i64 sg] := (congrArg (fun m => List.take m (List.drop 2 (List.take 5 (List.drop 4 [c0, c1, c2, c3, c4, c5, c6, c7, c8])))) cInt).symm.trans i6
    have i7j : [c7] = [Value.bool fr] := (congrArg (fun m => List.take m (List.drop 3 (List.take 5 (List.drop 4 [c0, c1, c2, c3, c4, c5, c6, c7, c8])))) cBool).symm.trans i7
    have i8j : [c8] = [Value.bool st] := (congrArg (fun m => List.take m (List.drop 4 (List.take 5 (List.drop 4 [c0, c1, c2, c3, c4, c5, c6, c7, c8])))) cBool).symm.trans i8
    obtain rfl : c0 = Value.string lb := by injection i0j
    obtain rfl : c1 = Value.int .i64 en := by injection i1j
    obtain rfl : c2 = Value.int .i64 wy := by injection i2j
    obtain rfl : c3 = Value.string wt := by injection i3j
    obtain rfl : c4 = Value.int .i64 se := by injection i4j
    obtain rfl : c5 = Value.string rs := by injection i5j
    obtain rfl : c6 = Value.int .i64 sg := by injection i6j
    obtain rfl : c7 = Value.bool fr := by injection i7j
    obtain rfl : c8 = Value.bool st := by injection i8j
    exact ⟨lb, en, wy, wt, se, rs, sg, fr, st, rfl⟩
end Go.Proofs.YtcgdecpjlggekaaGreatDoor

/-
  Laws on conversions between strings and bytes, as steps of a walk.
-/
import Derived.Test.YthaoohckgilahaaDoorBase2
import Derived.Laws.IdiomStrings
namespace Go.Proofs.YthaoohckgilahaaDoor
open Go.RowKit

def byteVal (c : UInt8) : Value := .int .u8 (c.toNat : Int)

theorem wpList_toBytes {P : Program} {w : World} {ops : Array Oper} {rest : List Oper} {o : Oper} {a : Act} {Q : Exit → Act → World → Prop} (hgd : o.guard = none) (x : Operand) (src dst e : TypeId)
    (ho : o.op = .convert src dst x) (hs : P.underlying src = some .string) (hd : P.underlying dst = some (.slice e)) (he : P.underlying e = some (.int .u8)) (s : ByteArray) (hx : a.eval x = .string s) (hsz : s.size ≤ 9223372036854775807)
    (h : ∀ c w', Bel w w' → w.heap.size < w'.heap.size → s.size ≤ c → c ≤ 9223372036854775807 → (∀ k b, s.data.toList[k]? = some b → w'.cell? ⟨w.heap.size, k, none⟩ = some (byteVal b)) → (∀ k, k < s.size → w'.frozen? ⟨w.heap.size, k, none⟩ = false) →
      wpList P ops Q rest (a.put o.dst (.slice (some ⟨w.heap.size, 0, none⟩) s.size c)) w') : wpList P ops Q (o :: rest) a w := by
  refine wpList_plain hgd fun K hK => ?_
  have hr := run_bytes_of_string (P := P) w src dst e s hs hd he
  unfold Oper.wp execOp
  simp only [ho, Sem.run_bind, Sem.run_pure, Result.andThen_ok, hx, hr]
  refine hK _ _ (h _ _ ?_ ?_ ?_ ?_ ?_ ?_)
  · exact (Bel.refl w).drew.alloc _
  · simp
  · exact grownCap_ge _ _ _ _
  · exact grownCap_le_maxLen _ _ _ _ (by simp only [maxLen]; omega)
  · intro k b hb
    have hk : k < s.data.size := by
      have := (List.getElem?_eq_some_iff.1 hb).1
      simpa using this
    have := World.cell?_alloc_mark w.drew (bytesRow s (grownCap w s.size 0 e)) e ((bytesRow s (grownCap w s.size 0 e)).size, (bytesRow s (grownCap w s.size 0 e)).size + 1) k
    rw [show w.drew.heap.size = w.heap.size from rfl] at this
    rw [this, bytesRow_at s _ k hk]
    have e2 : s.data.toList[k]? = some s.data[k] := by rw [Array.getElem?_toList]; exact Array.getElem?_eq_getElem hk
    rw [e2] at hb
    injection hb with hb
    rw [hb]; rfl
  · intro k hk
    have := World.frozen?_alloc_mark w.drew (bytesRow s (grownCap w s.size 0 e)) e (bytesRow s (grownCap w s.size 0 e)).size ((bytesRow s (grownCap w s.size 0 e)).size + 1) k
    rw [show w.drew.heap.size = w.heap.size from rfl] at this
    rw [this]
    have hsz : k < (bytesRow s (grownCap w s.size 0 e)).size := by
      have : s.data.size = s.size := rfl
      simp [bytesRow]; omega
    simp; omega

/-- 'string(b)' where b owns the bytes l. -/
theorem wpList_toString {P : Program} {w : World} {ops : Array Oper} {rest : List Oper} {o : Oper} {a : Act} {Q : Exit → Act → World → Prop} (hgd : o.guard = none) (x : Operand) (src dst e : TypeId)
    (ho : o.op = .convert src dst x) (hs : P.underlying src = some (.slice e)) (he : P.underlying e = some (.int .u8)) (hd : P.underlying dst = some .string) (B : Nat) (v : Value) (l : List UInt8) (hx : a.eval x = v) (hown : Own B e w v (l.map byteVal))
    (h : wpList P ops Q rest (a.put o.dst (.string ⟨l.toArray⟩)) w) : wpList P ops Q (o :: rest) a w := by
  refine wpList_plain hgd fun K hK => ?_
  have hr : (convert src dst v).run P w = .ok (.string ⟨l.toArray⟩) w := by
    obtain ⟨A, c, hv, h1, h2, h3, h4⟩ := hown.form
    rw [List.length_map] at hv
    subst hv
    cases A with
    | none =>
      have : l = [] := by simpa using h3 rfl
      subst this
      rw [run_convert_bytes_string w src dst e none _ c hs he hd]
      rfl
    | some y =>
      obtain ⟨g, o, p⟩ := y
      obtain ⟨rfl, rfl, _, _, _, h6⟩ := h4 g o p rfl
      exact run_convert_bytes_back w src dst e ⟨g, 0, none⟩ c l hs he hd (fun j hj => by
        rw [add_zero]
        exact h6 j _ (by rw [List.getElem?_map, List.getElem?_eq_getElem hj]; rfl))
  unfold Oper.wp execOp
  simp only [ho, Sem.run_bind, Sem.run_pure, Result.andThen_ok, hx, hr]
  exact hK _ _ h
/-- A literal list of numbers that has just been laid. -/
theorem IntSl.lit (w : World) (t : TypeId) (ys : List Int) (h : ys.length ≤ 1000000) : IntSl (w.alloc (.cells (ys.map (Value.int .i64)).toArray t)) (.slice (some ⟨w.heap.size, 0, none⟩) ys.length ys.length) ys := by
  refine ⟨some ⟨w.heap.size, 0, none⟩, ys.length, rfl, Nat.le_refl _, by unfold maxLen; omega, (fun h => by cases h), fun x hx i n hn => ?_⟩
  injection hx with hx
  subst hx
  rw [add_zero, World.cell?_alloc_new, List.getElem?_toArray, List.getElem?_map, hn]
  rfl
theorem drop_str (s : ByteArray) (k : Nat) : (s.extract k s.size).data.toList = s.data.toList.drop k := by
  rw [Lib.extract_data, List.take_of_length_le (by rw [List.length_drop, ← Lib.size_eq]; exact Nat.le_refl _)]
theorem drop_size (s : ByteArray) (k : Nat) : (s.extract k s.size).size = s.size - k := by
  rw [Lib.size_eq, drop_str, List.length_drop, ← Lib.size_eq]
theorem cons_of_pos (s : ByteArray) (h : 0 < s.size) : ∃ c t, s.data.toList = c :: t := by
  cases hl : s.data.toList with
  | nil => rw [Lib.size_eq, hl] at h; simp at h
  | cons c t => exact ⟨c, t, rfl⟩
def strLen : Value → Nat | .string s => s.size | _ => 0
theorem own_row {e : TypeId} (w : World) (l : List UInt8) (vs : List Value) (h : l.map byteVal = vs) (h2 : l.length ≤ 4) : Own w.heap.size e (w.alloc (.cells vs.toArray e)) (.slice (some ⟨w.heap.size, 0, none⟩) vs.length vs.length) (l.map byteVal) := by
  subst h
  exact Own.made w _ (Nat.le_refl _) (by rw [List.length_map]; unfold maxLen; omega)
end Go.Proofs.YthaoohckgilahaaDoor

/-
  Texts of the proof, laid together: Base, Base2, Base3, Base4, Base5, Base6, Base7, Plain, PlainLabel, White, Is, IndexFn, Label, PlainAttr, Attr, Attr2. No condition of its own.
-/
import Derived.WalkKit
import Derived.Lib.Hide
import Derived.Lib.Strings
import Derived.Deep.AppendLies
import Derived.Deep.Draws
import Derived.Laws.OwnMore
import Derived.Test.YthaoohckgilahaaDoorProg
import Derived.WalkLawsBesides
import Derived.WalkSpells
import Derived.Deep.QuietTactic
import Derived.BigQuiet
import Derived.Laws.IdiomStrings
import Derived.Laws.Rows
import Derived.Deep.RegionHeld3
import Derived.StillTailTactics
import Derived.Deep.RegionLaw
import Derived.Deep.LoopGhost
import Derived.Shelf.Abstract
import Derived.Test.YthaoohckgilahaaDoorShelf
import Derived.Shelf.Strings.SlTrimAscii
import Derived.BigRegion

/-
  Words for memory that all proofs of this seat share: what a call leaves below its own blocks, a slice that is owned, a slice that is read. No program in sight.
-/
namespace Go.Proofs.YthaoohckgilahaaDoor
open Go.RowKit

/-- What was there when the call began is as it was. -/
def Bel (w w' : World) : Prop := Below w.heap.size w w'

theorem Bel.refl (w : World) : Bel w w := Below.refl _ _
theorem Bel.trans {a b c : World} (h : Bel a b) (k : Bel b c) : Bel a c := Below.trans h (Below.mono k h.size)
theorem Bel.drew {a w : World} (h : Bel a w) : Bel a w.drew := Below.drew h
theorem Bel.drewN {a w : World} (h : Bel a w) (n : Nat) : Bel a (w.drewN n) := ⟨h.os, h.tape, h.output, h.size, h.block⟩
theorem Bel.alloc {a w : World} (h : Bel a w) (o : Obj) : Bel a (w.alloc o) := Below.alloc h h.size o
theorem Bel.setCell {a w : World} (h : Bel a w) {p : Addr} (hp : a.heap.size ≤ p.block) (u : Value) : Bel a (w.setCell p u) := Below.setCell h hp u
theorem Bel.size {a w : World} (h : Bel a w) : a.heap.size ≤ w.heap.size := Below.size h
theorem Bel.cell {a w : World} (h : Bel a w) {p : Addr} (hp : p.block < a.heap.size) : w.cell? p = a.cell? p := Below.cell h hp
theorem Bel.frozen {a w : World} (h : Bel a w) {p : Addr} (hp : p.block < a.heap.size) : w.frozen? p = a.frozen? p := Below.frozen h hp
theorem Bel.below {a w : World} (h : Bel a w) : Below a.heap.size a w := h
theorem Bel.of {a w : World} (h : Below a.heap.size a w) : Bel a w := h
theorem Bel.upto {B : Nat} {a b c : World} (h : Bel a b) (k : Below B b c) (hB : a.heap.size ≤ B) : Bel a c := Below.trans h (Below.mono k hB)
/-- All cells and marks that lay there read as they did: two rules for the walk. -/
theorem Bel.rules {a w : World} (h : Bel a w) : (∀ b o, b < a.heap.size → w.cell? ⟨b, o, none⟩ = a.cell? ⟨b, o, none⟩) ∧ (∀ b o, b < a.heap.size → w.frozen? ⟨b, o, none⟩ = a.frozen? ⟨b, o, none⟩) :=
  ⟨fun _ _ hb => h.cell (p := ⟨_, _, none⟩) hb, fun _ _ hb => h.frozen (p := ⟨_, _, none⟩) hb⟩
theorem Bel.lt {a w : World} (h : Bel a w) {k : Nat} (hk : k < a.heap.size) : k < w.heap.size := Nat.lt_of_lt_of_le hk h.size

theorem block_of_add (a : Addr) (n : Nat) : (a.add n).block = a.block := by unfold Addr.add; split <;> rfl
theorem add_zero (g k : Nat) : (⟨g, 0, none⟩ : Addr).add k = ⟨g, k, none⟩ := by unfold Addr.add; split <;> simp_all

/-! ## A slice that is owned: its cells lie in one block from B on -/
def Own (B : Nat) (e : TypeId) (w : World) (v : Value) (xs : List Value) : Prop := w.ownsRow B e 1 v xs.length xs

section
variable {B B' : Nat} {e : TypeId} {w w' : World} {v : Value} {xs : List Value}
theorem Own.nil (B : Nat) (e : TypeId) (w : World) : Own B e w (.slice none 0 0) [] := World.ownsRow_nil _ _ _ _
theorem Own.mono (h : Own B e w v xs) (hB : B' ≤ B) : Own B' e w v xs := by
  refine ⟨h.1, ?_⟩
  rcases h.2 with h2 | ⟨g, cap, cur, r0, r1, r2⟩
  · exact .inl h2
  · exact .inr ⟨g, cap, cur, r0, Nat.le_trans hB r1, r2⟩
theorem Own.bel (h : Own B e w v xs) (hb : Bel w w') : Own B e w' v xs := by
  refine ⟨h.1, ?_⟩
  rcases h.2 with h2 | ⟨g, cap, cur, r0, r1, r2, r3⟩
  · exact .inl h2
  · exact .inr ⟨g, cap, cur, r0, r1, (hb.block g (Array.getElem?_eq_some_iff.1 r2).1).trans r2, r3⟩
theorem Own.drew (h : Own B e w v xs) : Own B e w.drew v xs := h
theorem Own.drewN (h : Own B e w v xs) (n : Nat) : Own B e (w.drewN n) v xs := h.bel ((Bel.refl w).drewN n)
theorem Own.alloc (h : Own B e w v xs) (o : Obj) : Own B e (w.alloc o) v xs := h.bel ((Bel.refl w).alloc o)
theorem Own.upto {C : Nat} (h : Own B e w v xs) (hb : Below C w w') (hC : ∀ k, v.ownBlock = some k → k < C) : Own B e w' v xs := by
  refine ⟨h.1, ?_⟩
  rcases h.2 with h2 | ⟨g, cap, cur, r0, r1, r2, r3⟩
  · exact .inl h2
  · exact .inr ⟨g, cap, cur, r0, r1, (hb.block g (hC g (by subst r0; rfl))).trans r2, r3⟩
/-- What it looks like, for the walk. -/
theorem Own.form (h : Own B e w v xs) : ∃ A c, v = .slice A xs.length c ∧ xs.length ≤ c ∧ c ≤ maxLen ∧ (A = none → xs = []) ∧
    ∀ g o p, A = some ⟨g, o, p⟩ → o = 0 ∧ p = none ∧ B ≤ g ∧ g < w.heap.size ∧ (∀ k, w.frozen? ⟨g, k, none⟩ = false) ∧ (∀ k u, xs[k]? = some u → w.cell? ⟨g, k, none⟩ = some u) := by
  rcases h.2 with ⟨rfl, hn⟩ | ⟨g, cap, cur, rfl, r1, r2, r3, r4, r5, r6⟩
  · have hx : xs = [] := List.eq_nil_of_length_eq_zero hn
    subst hx
    exact ⟨none, 0, rfl, Nat.le_refl _, Nat.zero_le _, fun _ => rfl, fun _ _ _ hh => by cases hh⟩
  · refine ⟨some ⟨g, 0, none⟩, cap, rfl, r3, r4, (fun hh => by cases hh), fun g' o p hh => ?_⟩
    injection hh with hh
    injection hh with h1 h2 h3
    subst h1; subst h2; subst h3
    refine ⟨rfl, rfl, r1, (Array.getElem?_eq_some_iff.1 r2).1, fun k => by simp [World.frozen?, r2], fun k u hu => ?_⟩
    have := World.ownsRow.cells h (g := g) rfl k u hu
    rwa [add_zero] at this
theorem Own.lt (h : Own B e w v xs) : ∀ k, v.ownBlock = some k → B ≤ k ∧ k < w.heap.size := World.ownsRow.lt h
/-- A row of cells that has just been laid. -/
theorem Own.made (w : World) (cur : List Value) (hb : B ≤ w.heap.size) (hm : cur.length ≤ maxLen) : Own B e (w.alloc (.cells cur.toArray e)) (.slice (some ⟨w.heap.size, 0, none⟩) cur.length cur.length) cur :=
  ⟨by simp, .inr ⟨w.heap.size, cur.length, cur.toArray, rfl, hb, heap_alloc_new w _, Nat.le_refl _, hm, by simp, by simp⟩⟩
end

/-- The element type's row of the table. -/
def Elem (P : Program) (t e : TypeId) (bytes : Nat) : Prop := P.underlying t = some (.slice e) ∧ ∃ z, (P.info? e).map (fun i => (i.zero, i.size, i.bytes)) = some (some z, 1, bytes) ∧ z.cells.size = 1

/-- 'out = append(out, x)', out the call's own. -/
theorem wpList_app1 {P : Program} (w : World) {ops : Array Oper} {rest : List Oper} {o : Oper} {a : Act} {Q : Exit → Act → World → Prop} (hgd : o.guard = none) (s x : Operand) (t : TypeId)
    (ho : o.op = .call { callee := .builtin .append, args := #[s, x], argTypes := #[t, t] }) {e : TypeId} {bytes : Nat} (he : Elem P t e bytes) (hby : bytes ≤ 1024)
    (B : Nat) (v : Value) (xs : List Value) (hs : a.eval s = v) (hown : Own B e w v xs) (g c : Nat) (u : Value) (hx : a.eval x = .slice (some ⟨g, 0, none⟩) 1 c)
    (hu : w.cell? ⟨g, 0, none⟩ = some u) (h1 : u.oneCell' = true) (hlen : xs.length < 68719476736) (hB : B ≤ w.heap.size)
    (h : ∀ v' w', Own B e w' v' (xs ++ [u]) → Below B w w' → (∀ k, v.ownBlock ≠ some k → k < w.heap.size → w'.heap[k]? = w.heap[k]?) → wpList P ops Q rest (a.put o.dst v') w') : wpList P ops Q (o :: rest) a w := by
  obtain ⟨ht, z, hi, hz⟩ := he
  obtain ⟨i, hi, hz0, hz1, hz2⟩ := info_parts hi
  refine wpList_append_own w hgd s x t ho B e i z 1 bytes ht hi hz0 hz1 hz2 hz (by decide) v xs.length xs hs hown ⟨g, 0, none⟩ 1 c [u] hx rfl ?_ ?_ (by simp only [maxLen]; omega) ?_ hB ?_
  · intro j u' hj
    match j, hj with
    | 0, hj =>
      simp only [List.getElem?_cons_zero, Option.some.injEq] at hj
      subst hj
      rw [add_zero]
      exact hu
    | j + 1, hj => simp at hj
  · intro u' hu'
    simp only [List.mem_singleton] at hu'
    subst hu'
    exact h1
  · have : (xs.length + 1) * bytes ≤ 68719476736 * 1024 := Nat.mul_le_mul (by omega) hby
    omega
  · intro v' w' ho' hg' _
    refine h v' w' ?_ ?_ ?_
    · show w'.ownsRow B e 1 v' (xs ++ [u]).length (xs ++ [u])
      rw [List.length_append]
      exact ho'
    · exact (Below.refl B w).grown hg' hB (fun k hk => (hown.lt k hk).1)
    · exact fun k hne hk => hg'.block k hk (fun e => hne e.symm)

/-- The same, where the one cell has just been laid: what is known of the world ahead of it is asked. -/
theorem wpList_app {P : Program} {w0 : World} {ops : Array Oper} {rest : List Oper} {o : Oper} {a : Act} {Q : Exit → Act → World → Prop} (hgd : o.guard = none) (s x : Operand) (t : TypeId)
    (ho : o.op = .call { callee := .builtin .append, args := #[s, x], argTypes := #[t, t] }) {e : TypeId} {bytes : Nat} (he : Elem P t e bytes) (hby : bytes ≤ 1024)
    (B : Nat) (u : Value) (v : Value) (xs : List Value) (hs : a.eval s = v) (hx : a.eval x = .slice (some ⟨w0.heap.size, 0, none⟩) 1 1) (hown : Own B e w0 v xs)
    (h1 : u.oneCell' = true) (hlen : xs.length < 68719476736) (hB : B ≤ w0.heap.size)
    (h : ∀ v' w', Own B e w' v' (xs ++ [u]) → Below B w0 w' → wpList P ops Q rest (a.put o.dst v') w') : wpList P ops Q (o :: rest) a (w0.alloc (.cells #[u] e)) := by
  refine wpList_app1 (w0.alloc (.cells #[u] e)) hgd s x t ho he hby B v xs hs (hown.alloc _) _ 1 u hx ?_ h1 hlen (by simp; omega) ?_
  · rw [World.cell?_alloc_new]; rfl
  · intro v' w' ho' hb' _
    exact h v' w' ho' (((Below.refl B w0).alloc hB _).trans hb')

/-! ## A slice of integers that is read: it came in, or is the call's own -/
def IntSl (w : World) (v : Value) (xs : List Int) : Prop :=
  ∃ a c, v = .slice a xs.length c ∧ xs.length ≤ c ∧ c ≤ maxLen ∧ (a = none → xs = []) ∧ (∀ x, a = some x → ∀ i n, xs[i]? = some n → w.cell? (x.add i) = some (.int .i64 n))
theorem IntSl.bel {w w' : World} {v : Value} {xs : List Int} (h : IntSl w v xs) (hb : Bel w w') : IntSl w' v xs := by
  obtain ⟨a, c, h1, h2, h3, h4, h5⟩ := h
  refine ⟨a, c, h1, h2, h3, h4, fun x hx i n hn => ?_⟩
  have := h5 x hx i n hn
  exact (hb.cell (World.block_lt_of_cell? w _ this)).trans this
theorem Own.ints {B : Nat} {e : TypeId} {w : World} {v : Value} {xs : List Int} (h : Own B e w v (xs.map (Value.int .i64))) : IntSl w v xs := by
  obtain ⟨A, c, h1, h2, h3, h4, h5⟩ := h.form
  rw [List.length_map] at h1 h2
  refine ⟨A, c, h1, h2, h3, fun ha => by simpa using h4 ha, fun x hx i n hn => ?_⟩
  obtain ⟨g, o, p⟩ := x
  obtain ⟨rfl, rfl, _, _, _, h6⟩ := h5 g o p hx
  rw [add_zero]
  exact h6 i _ (by rw [List.getElem?_map, hn]; rfl)
/-- What the row's reading of a slice of integers gives. -/
theorem IntSl.of_row {w : World} {x : Addr} {l c : Nat} {zs : List Int} (hl : l ≤ c) (hm : c ≤ maxLen) (hz : zs.length = c) (hcell : ∀ i, i < zs.length → w.cell? (x.add i) = some (.int .i64 (zs.getD i 0))) : IntSl w (.slice (some x) l c) (zs.take l) := by
  have e : (zs.take l).length = l := by rw [List.length_take]; omega
  refine ⟨some x, c, by rw [e], by omega, hm, (fun h => by cases h), fun y hy i n hn => ?_⟩
  injection hy with hy
  subst hy
  rw [List.getElem?_take] at hn
  split at hn
  · rw [hcell i (by rw [List.getElem?_eq_some_iff] at hn; exact hn.1), List.getD_eq_getElem?_getD, hn]
    rfl
  · cases hn
theorem IntSl.nil_ (w : World) : IntSl w (.slice none 0 0) [] := ⟨.none, 0, rfl, Nat.le_refl _, Nat.zero_le _, fun _ => rfl, fun _ h => by cases h⟩

/-! ## Bytes -/
theorem size_lt_of_getElem (s : ByteArray) (l : List UInt8) (h : s.data.toList = l) : s.size = l.length := by rw [Lib.size_eq, h]
theorem byte_at (s : ByteArray) (k : Nat) (h : k < s.size) : s.data.toList[k]? = some s[k] := by
  rw [Lib.size_eq] at h
  rw [List.getElem?_eq_getElem h]
  rfl
theorem str_eq (s : ByteArray) : (⟨s.data.toList.toArray⟩ : ByteArray) = s := Lib.mk_data s
theorem data_append (s t : ByteArray) : (s ++ t).data.toList = s.data.toList ++ t.data.toList := by simp
theorem append_str (s t : ByteArray) : s ++ t = ⟨(s.data.toList ++ t.data.toList).toArray⟩ := by
  rw [← data_append, Lib.mk_data]
theorem str_append (l : List UInt8) (t : ByteArray) : (⟨l.toArray⟩ : ByteArray) ++ t = ⟨(l ++ t.data.toList).toArray⟩ := by rw [append_str]
theorem size_str (l : List UInt8) : (⟨l.toArray⟩ : ByteArray).size = l.length := by rw [Lib.size_eq]
theorem ret_two {a b c d : Value} (h : a = c) (k : b = d) : Ending.returned (.tuple #[a, b]) = .returned (.tuple #[c, d]) := by rw [h, k]
theorem ret_one {a c : Value} (h : a = c) : Ending.returned a = .returned c := by rw [h]
theorem ret_bool {a b : Bool} (h : a = b) : Ending.returned (.bool a) = .returned (.bool b) := by rw [h]
theorem ret_int {a b : Int} (h : a = b) : Ending.returned (.int .i64 a) = .returned (.int .i64 b) := by rw [h]
end Go.Proofs.YthaoohckgilahaaDoor

/-
  More words that all proofs share: the types' rows, lists that grow by one.
-/
namespace Go.Proofs.YthaoohckgilahaaDoor
open Go.RowKit

theorem elemByte : Elem Tryd.prog 72 5 1 := ⟨Tryd.underlying72, .int .u8 0, by kernel_rfl, rfl⟩
theorem take_snoc {α β : Type} (f : α → β) (xs : List α) (k : Nat) (x : α) (h : xs[k]? = some x) : (xs.take (k + 1)).map f = (xs.take k).map f ++ [f x] := by
  rw [List.take_add_one, h]; simp
theorem cell_new (w : World) (u : Value) (t : TypeId) : (w.alloc (.cells #[u] t)).cell? ⟨w.heap.size, 0, none⟩ = some u := by
  rw [World.cell?_alloc_new]; rfl
theorem Below.sized {B : Nat} {a w : World} (h : Below B a w) (hB : B ≤ a.heap.size) : B ≤ w.heap.size := Nat.le_trans hB h.size
end Go.Proofs.YthaoohckgilahaaDoor

/-
  Laws on conversions between strings and bytes, as steps of a walk.
-/
namespace Go.Proofs.YthaoohckgilahaaDoor
open Go.RowKit

def byteVal (c : UInt8) : Value := .int .u8 (c.toNat : Int)

theorem wpList_toBytes {P : Program} {w : World} {ops : Array Oper} {rest : List Oper} {o : Oper} {a : Act} {Q : Exit → Act → World → Prop} (hgd : o.guard = none) (x : Operand) (src dst e : TypeId)
    (ho : o.op = .convert src dst x) (hs : P.underlying src = some .string) (hd : P.underlying dst = some (.slice e)) (he : P.underlying e = some (.int .u8)) (s : ByteArray) (hx : a.eval x = .string s) (hsz : s.size ≤ 9223372036854775807)
    (h : ∀ c w', Bel w w' → w.heap.size < w'.heap.size → s.size ≤ c → c ≤ 9223372036854775807 → (∀ k b, s.data.toList[k]? = some b → w'.cell? ⟨w.heap.size, k, none⟩ = some (byteVal b)) → (∀ k, k < s.size → w'.frozen? ⟨w.heap.size, k, none⟩ = false) →
      wpList P ops Q rest (a.put o.dst (.slice (some ⟨w.heap.size, 0, none⟩) s.size c)) w') : wpList P ops Q (o :: rest) a w := by
  refine wpList_plain hgd fun K hK => ?_
  have hr := run_bytes_of_string (P := P) w src dst e s hs hd he
  unfold Oper.wp execOp
  simp only [ho, Sem.run_bind, Sem.run_pure, Result.andThen_ok, hx, hr]
  refine hK _ _ (h _ _ ?_ ?_ ?_ ?_ ?_ ?_)
  · exact (Bel.refl w).drew.alloc _
  · simp
  · exact grownCap_ge _ _ _ _
  · exact grownCap_le_maxLen _ _ _ _ (by simp only [maxLen]; omega)
  · intro k b hb
    have hk : k < s.data.size := by
      have := (List.getElem?_eq_some_iff.1 hb).1
      simpa using this
    have := World.cell?_alloc_mark w.drew (bytesRow s (grownCap w s.size 0 e)) e ((bytesRow s (grownCap w s.size 0 e)).size, (bytesRow s (grownCap w s.size 0 e)).size + 1) k
    rw [show w.drew.heap.size = w.heap.size from rfl] at this
    rw [this, bytesRow_at s _ k hk]
    have e2 : s.data.toList[k]? = some s.data[k] := by rw [Array.getElem?_toList]; exact Array.getElem?_eq_getElem hk
    rw [e2] at hb
    injection hb with hb
    rw [hb]; rfl
  · intro k hk
    have := World.frozen?_alloc_mark w.drew (bytesRow s (grownCap w s.size 0 e)) e (bytesRow s (grownCap w s.size 0 e)).size ((bytesRow s (grownCap w s.size 0 e)).size + 1) k
    rw [show w.drew.heap.size = w.heap.size from rfl] at this
    rw [this]
    have hsz : k < (bytesRow s (grownCap w s.size 0 e)).size := by
      have : s.data.size = s.size := rfl
      simp [bytesRow]; omega
    simp; omega

/-- 'string(b)' where b owns the bytes l. -/
theorem wpList_toString {P : Program} {w : World} {ops : Array Oper} {rest : List Oper} {o : Oper} {a : Act} {Q : Exit → Act → World → Prop} (hgd : o.guard = none) (x : Operand) (src dst e : TypeId)
    (ho : o.op = .convert src dst x) (hs : P.underlying src = some (.slice e)) (he : P.underlying e = some (.int .u8)) (hd : P.underlying dst = some .string) (B : Nat) (v : Value) (l : List UInt8) (hx : a.eval x = v) (hown : Own B e w v (l.map byteVal))
    (h : wpList P ops Q rest (a.put o.dst (.string ⟨l.toArray⟩)) w) : wpList P ops Q (o :: rest) a w := by
  refine wpList_plain hgd fun K hK => ?_
  have hr : (convert src dst v).run P w = .ok (.string ⟨l.toArray⟩) w := by
    obtain ⟨A, c, hv, h1, h2, h3, h4⟩ := hown.form
    rw [List.length_map] at hv
    subst hv
    cases A with
    | none =>
      have : l = [] := by simpa using h3 rfl
      subst this
      rw [run_convert_bytes_string w src dst e none _ c hs he hd]
      rfl
    | some y =>
      obtain ⟨g, o, p⟩ := y
      obtain ⟨rfl, rfl, _, _, _, h6⟩ := h4 g o p rfl
      exact run_convert_bytes_back w src dst e ⟨g, 0, none⟩ c l hs he hd (fun j hj => by
        rw [add_zero]
        exact h6 j _ (by rw [List.getElem?_map, List.getElem?_eq_getElem hj]; rfl))
  unfold Oper.wp execOp
  simp only [ho, Sem.run_bind, Sem.run_pure, Result.andThen_ok, hx, hr]
  exact hK _ _ h
/-- A literal list of numbers that has just been laid. -/
theorem IntSl.lit (w : World) (t : TypeId) (ys : List Int) (h : ys.length ≤ 1000000) : IntSl (w.alloc (.cells (ys.map (Value.int .i64)).toArray t)) (.slice (some ⟨w.heap.size, 0, none⟩) ys.length ys.length) ys := by
  refine ⟨some ⟨w.heap.size, 0, none⟩, ys.length, rfl, Nat.le_refl _, by unfold maxLen; omega, (fun h => by cases h), fun x hx i n hn => ?_⟩
  injection hx with hx
  subst hx
  rw [add_zero, World.cell?_alloc_new, List.getElem?_toArray, List.getElem?_map, hn]
  rfl
theorem drop_str (s : ByteArray) (k : Nat) : (s.extract k s.size).data.toList = s.data.toList.drop k := by
  rw [Lib.extract_data, List.take_of_length_le (by rw [List.length_drop, ← Lib.size_eq]; exact Nat.le_refl _)]
theorem drop_size (s : ByteArray) (k : Nat) : (s.extract k s.size).size = s.size - k := by
  rw [Lib.size_eq, drop_str, List.length_drop, ← Lib.size_eq]
theorem cons_of_pos (s : ByteArray) (h : 0 < s.size) : ∃ c t, s.data.toList = c :: t := by
  cases hl : s.data.toList with
  | nil => rw [Lib.size_eq, hl] at h; simp at h
  | cons c t => exact ⟨c, t, rfl⟩
def strLen : Value → Nat | .string s => s.size | _ => 0
theorem own_row {e : TypeId} (w : World) (l : List UInt8) (vs : List Value) (h : l.map byteVal = vs) (h2 : l.length ≤ 4) : Own w.heap.size e (w.alloc (.cells vs.toArray e)) (.slice (some ⟨w.heap.size, 0, none⟩) vs.length vs.length) (l.map byteVal) := by
  subst h
  exact Own.made w _ (Nat.le_refl _) (by rw [List.length_map]; unfold maxLen; omega)
end Go.Proofs.YthaoohckgilahaaDoor

/-
  Append of a whole list of numbers, as a step of a walk (guarded or not).
-/
namespace Go.Proofs.YthaoohckgilahaaDoor
open Go.RowKit

theorem wpList_wanted {P : Program} {w : World} {ops : Array Oper} {rest : List Oper} {o : Oper} {a : Act} {Q : Exit → Act → World → Prop} (hw : Region.wanted o (yielded ops a.tmps) = true)
    (h : ∀ K : Act → World → Prop, (∀ a w, wpList P ops Q rest a w → K a w) → o.wp P a w K Q) : wpList P ops Q (o :: rest) a w :=
  wpList_step fun K hK => by rw [if_pos hw]; exact h K hK

theorem run_append_nil_src {P : Program} {w : World} {B : Nat} {t e : TypeId} {bytes : Nat} (ty : TypeId) (he : Elem P t e bytes) {v : Value} {xs : List Value} (hown : Own B e w v xs) (c : Nat) :
    (Builtin.append_ #[t, t] ty #[v, .slice none 0 c]).run P w = .ok v w := by
  obtain ⟨ht, z, hi, hz⟩ := he
  obtain ⟨i, hi, hz0, hz1, hz2⟩ := info_parts hi
  rcases hown.2 with ⟨rfl, h0⟩ | ⟨g, cap, cur, rfl, _, _, hnc, _⟩
  · simp [Builtin.append_, run_underlying ht, sizeOf, typeInfo, hi, Builtin.lenOf, Builtin.firstCells]
  · simp [Builtin.append_, run_underlying ht, sizeOf, typeInfo, hi, Builtin.lenOf, Builtin.firstCells, hnc, storeCells]

theorem wpList_appInts {P : Program} {w : World} {ops : Array Oper} {rest : List Oper} {o : Oper} {a : Act} {Q : Exit → Act → World → Prop} (s x : Operand) (t : TypeId)
    (ho : o.op = .call { callee := .builtin .append, args := #[s, x], argTypes := #[t, t] }) {e : TypeId} {bytes : Nat} (he : Elem P t e bytes) (hby : bytes ≤ 1024)
    (B : Nat) (v : Value) (xs : List Value) (hown : Own B e w v xs) (y : Value) (ys : List Int) (hy : IntSl w y ys) (hlen : xs.length + ys.length < 68719476736) (hB : B ≤ w.heap.size)
    (hs : a.eval s = v) (hx : a.eval x = y) (hw : Region.wanted o (yielded ops a.tmps) = true)
    (h : ∀ v' w', Own B e w' v' (xs ++ ys.map (Value.int .i64)) → Below B w w' → wpList P ops Q rest (a.put o.dst v') w') : wpList P ops Q (o :: rest) a w := by
  refine wpList_wanted hw fun K hK => ?_
  obtain ⟨A, c, rfl, h1, h2, h3, h4⟩ := hy
  cases A with
  | none =>
    have hn := h3 rfl
    subst hn
    have hr := run_append_nil_src o.type he hown c
    unfold Oper.wp execOp
    simp only [ho, resolve, invoke, builtin, Sem.run_bind, Sem.run_pure, Result.andThen_ok, List.map_toArray, List.map_cons, List.map_nil, hs, hx, List.length_nil, hr]
    exact hK _ _ (h _ _ (by simpa using hown) (Below.refl _ _))
  | some ad =>
    obtain ⟨ht, z, hi, hz⟩ := he
    obtain ⟨i, hi, hz0, hz1, hz2⟩ := info_parts hi
    refine wp_append_own w s x t ho B e i z 1 bytes ht hi hz0 hz1 hz2 hz (by decide) v xs.length xs hs hown ad ys.length c (ys.map (Value.int .i64)) hx (by simp) ?_ ?_ (by simp only [maxLen]; omega) ?_ hB ?_
    · intro j u hj
      rw [List.getElem?_map] at hj
      cases hq : ys[j]? with
      | none => rw [hq] at hj; cases hj
      | some n =>
        rw [hq] at hj
        injection hj with hj
        rw [← hj]
        exact h4 ad rfl j n hq
    · intro u hu
      rw [List.mem_map] at hu
      obtain ⟨n, _, rfl⟩ := hu
      rfl
    · have : (xs.length + ys.length) * bytes ≤ 68719476736 * 1024 := Nat.mul_le_mul (by omega) hby
      omega
    · intro v' w' ho' hg' _
      refine hK _ _ (h v' w' ?_ ?_)
      · show w'.ownsRow B e 1 v' (xs ++ ys.map (Value.int .i64)).length (xs ++ ys.map (Value.int .i64))
        rw [List.length_append, List.length_map]
        exact ho'
      · exact (Below.refl B w).grown hg' hB (fun k hk => (hown.lt k hk).1)
/-- '[]int{}'. -/
theorem Own.empty {B : Nat} (w : World) (e : TypeId) (hB : B ≤ w.heap.size) : Own B e (w.alloc (.cells #[] e)) (.slice (some ⟨w.heap.size, 0, none⟩) 0 0) [] :=
  Own.made w [] hB (Nat.zero_le _)
/-- 'out = append(out, x, y, ..)': the cells have just been laid. -/
theorem wpList_apps {P : Program} {w0 : World} {ops : Array Oper} {rest : List Oper} {o : Oper} {a : Act} {Q : Exit → Act → World → Prop} (s x : Operand) (t : TypeId)
    (ho : o.op = .call { callee := .builtin .append, args := #[s, x], argTypes := #[t, t] }) {e : TypeId} {bytes : Nat} (he : Elem P t e bytes) (hby : bytes ≤ 1024)
    (B : Nat) (v : Value) (xs us : List Value) (hown : Own B e w0 v xs) (h1 : ∀ u ∈ us, u.oneCell' = true) (hlen : xs.length + us.length < 68719476736) (hB : B ≤ w0.heap.size)
    (hs : a.eval s = v) (hx : a.eval x = .slice (some ⟨w0.heap.size, 0, none⟩) us.length us.length) (hw : Region.wanted o (yielded ops a.tmps) = true)
    (h : ∀ v' w', Own B e w' v' (xs ++ us) → Below B w0 w' → wpList P ops Q rest (a.put o.dst v') w') : wpList P ops Q (o :: rest) a (w0.alloc (.cells us.toArray e)) := by
  refine wpList_wanted hw fun K hK => ?_
  obtain ⟨ht, z, hi, hz⟩ := he
  obtain ⟨i, hi, hz0, hz1, hz2⟩ := info_parts hi
  refine wp_append_own _ s x t ho B e i z 1 bytes ht hi hz0 hz1 hz2 hz (by decide) v xs.length xs hs (hown.alloc _) ⟨w0.heap.size, 0, none⟩ us.length us.length us hx (by simp) ?_ h1 (by simp only [maxLen]; omega) ?_ (by simp; omega) ?_
  · intro j u hj
    rw [add_zero, World.cell?_alloc_new, List.getElem?_toArray]
    exact hj
  · have : (xs.length + us.length) * bytes ≤ 68719476736 * 1024 := Nat.mul_le_mul (by omega) hby
    omega
  · intro v' w' ho' hg' _
    refine hK _ _ (h v' w' ?_ ?_)
    · show w'.ownsRow B e 1 v' (xs ++ us).length (xs ++ us)
      rw [List.length_append]
      exact ho'
    · exact ((Below.refl B w0).alloc hB _).trans ((Below.refl B _).grown hg' (by simp; omega) (fun k hk => (hown.lt k hk).1))
end Go.Proofs.YthaoohckgilahaaDoor

/-
  A block that is known whole: a struct behind a pointer, a variable that a closure holds.
-/
namespace Go.Proofs.YthaoohckgilahaaDoor
open Go.RowKit

/-- Block g holds just these cells, and none is frozen. -/
def Box (w : World) (g : Nat) (t : TypeId) (cs : List Value) : Prop := w.heap[g]? = some (.cells cs.toArray t (0, 0))
section
variable {w w' : World} {g B : Nat} {t : TypeId} {cs : List Value}
theorem Box.lt (h : Box w g t cs) : g < w.heap.size := by
  unfold Box at h
  exact (Array.getElem?_eq_some_iff.1 h).1
theorem Box.cell (h : Box w g t cs) (i : Nat) (v : Value) (hv : cs[i]? = some v) : w.cell? ⟨g, i, none⟩ = some v := by
  unfold Box at h
  simp [World.cell?, h, hv]
theorem Box.frozen (h : Box w g t cs) (i : Nat) : w.frozen? ⟨g, i, none⟩ = false := by
  unfold Box at h
  simp [World.frozen?, h]
theorem Box.bel (h : Box w g t cs) (hb : Bel w w') : Box w' g t cs := (hb.block g h.lt).trans h
theorem Box.upto (h : Box w g t cs) (hb : Below B w w') (hg : g < B) : Box w' g t cs := (hb.block g hg).trans h
theorem Box.new (w : World) (t : TypeId) (cs : List Value) : Box (w.alloc (.cells cs.toArray t)) w.heap.size t cs := heap_alloc_new w _
theorem Box.drewN (h : Box w g t cs) (n : Nat) : Box (w.drewN n) g t cs := h
theorem Box.set (h : Box w g t cs) (i : Nat) (u : Value) : Box (w.setCell ⟨g, i, none⟩ u) g t (cs.set i u) := by
  unfold Box at h ⊢
  simp [World.setCell, Array.getElem?_modify, h]
theorem Box.far (h : Box w g t cs) {p : Addr} (hp : g ≠ p.block) (u : Value) : Box (w.setCell p u) g t cs := (Below.heap_setCell w p u g hp).trans h
theorem Box.set0 {u v : Value} (h : Box w g t [v]) : Box (w.setCell ⟨g, 0, none⟩ u) g t [u] := h.set 0 u
end
theorem Own.setCell {B : Nat} {e : TypeId} {w : World} {v : Value} {xs : List Value} (h : Own B e w v xs) {p : Addr} (hp : p.block < B) (u : Value) : Own B e (w.setCell p u) v xs := by
  refine ⟨h.1, ?_⟩
  rcases h.2 with h2 | ⟨g, cap, cur, r0, r1, r2, r3⟩
  · exact .inl h2
  · exact .inr ⟨g, cap, cur, r0, r1, (Below.heap_setCell w p u g (by omega)).trans r2, r3⟩
theorem bel_store {w wr w1 : World} {B g i : Nat} (h : Bel w wr) (k : Below B wr w1) (hB : w.heap.size ≤ B) (hg : w.heap.size ≤ g) (u : Value) : Bel w (w1.setCell ⟨g, i, none⟩ u) :=
  (Bel.upto h k hB).setCell hg u
end Go.Proofs.YthaoohckgilahaaDoor

/-
  Append inside a region that draws its order.
-/
namespace Go.Proofs.YthaoohckgilahaaDoor
open Go.RowKit

theorem step_app {P : Program} {w0 : World} {ops : Array Oper} {o : Oper} {a : Act} {K : Act → World → Prop} {Q : Exit → Act → World → Prop} {E : Prop} (hgd : o.guard = none) (s x : Operand) (t : TypeId)
    (ho : o.op = .call { callee := .builtin .append, args := #[s, x], argTypes := #[t, t] }) {e : TypeId} {bytes : Nat} (he : Elem P t e bytes) (hby : bytes ≤ 1024)
    (B : Nat) (v : Value) (xs : List Value) (u : Value) (hs : a.eval s = v) (hown : Own B e w0 v xs) (hx : a.eval x = .slice (some ⟨w0.heap.size, 0, none⟩) 1 1) (h1 : u.oneCell' = true) (hlen : xs.length < 68719476736) (hB : B ≤ w0.heap.size)
    (h : ∀ v' w', Own B e w' v' (xs ++ [u]) → Below B w0 w' → K (a.put o.dst v') w') :
    if Region.wanted o (yielded ops a.tmps) = true then Oper.wp P o a (w0.alloc (.cells #[u] e)) K Q else E := by
  have hw : Region.wanted o (yielded ops a.tmps) = true := by simp [Region.wanted, hgd]
  rw [if_pos hw]
  obtain ⟨ht, z, hi, hz⟩ := he
  obtain ⟨i, hi, hz0, hz1, hz2⟩ := info_parts hi
  refine wp_append_own _ s x t ho B e i z 1 bytes ht hi hz0 hz1 hz2 hz (by decide) v xs.length xs hs (hown.alloc _) ⟨w0.heap.size, 0, none⟩ 1 1 [u] hx (by simp) ?_ (by simpa using h1) (by simp only [maxLen]; omega) ?_ (by simp; omega) ?_
  · intro j u' hj
    rw [add_zero, World.cell?_alloc_new]
    simpa using hj
  · have : (xs.length + 1) * bytes ≤ 68719476736 * 1024 := Nat.mul_le_mul (by omega) hby
    omega
  · intro v' w' ho' hg' _
    refine h v' w' ?_ ?_
    · show w'.ownsRow B e 1 v' (xs ++ [u]).length (xs ++ [u])
      rw [List.length_append]
      exact ho'
    · exact ((Below.refl B w0).alloc hB _).trans ((Below.refl B _).grown hg' (by simp; omega) (fun k hk => (hown.lt k hk).1))
end Go.Proofs.YthaoohckgilahaaDoor

/-
  Append, and what lies in other blocks.
-/
namespace Go.Proofs.YthaoohckgilahaaDoor
open Go.RowKit

/-- Append of a whole list of numbers: what lies in other blocks is as it was. -/
theorem wpList_appIntsX {P : Program} {w : World} {ops : Array Oper} {rest : List Oper} {o : Oper} {a : Act} {Q : Exit → Act → World → Prop} (s x : Operand) (t : TypeId)
    (ho : o.op = .call { callee := .builtin .append, args := #[s, x], argTypes := #[t, t] }) {e : TypeId} {bytes : Nat} (he : Elem P t e bytes) (hby : bytes ≤ 1024)
    (B : Nat) (v : Value) (xs : List Value) (hown : Own B e w v xs) (y : Value) (ys : List Int) (hy : IntSl w y ys) (hlen : xs.length + ys.length < 68719476736) (hB : B ≤ w.heap.size)
    (hs : a.eval s = v) (hx : a.eval x = y) (hw : Region.wanted o (yielded ops a.tmps) = true)
    (h : ∀ v' w', Own B e w' v' (xs ++ ys.map (Value.int .i64)) → Below B w w' → (∀ k, v.ownBlock ≠ some k → k < w.heap.size → w'.heap[k]? = w.heap[k]?) → wpList P ops Q rest (a.put o.dst v') w') : wpList P ops Q (o :: rest) a w := by
  refine wpList_wanted hw fun K hK => ?_
  obtain ⟨A, c, rfl, h1, h2, h3, h4⟩ := hy
  cases A with
  | none =>
    have hn := h3 rfl
    subst hn
    have hr := run_append_nil_src o.type he hown c
    unfold Oper.wp execOp
    simp only [ho, resolve, invoke, builtin, Sem.run_bind, Sem.run_pure, Result.andThen_ok, List.map_toArray, List.map_cons, List.map_nil, hs, hx, List.length_nil, hr]
    exact hK _ _ (h _ _ (by simpa using hown) (Below.refl _ _) (fun _ _ _ => rfl))
  | some ad =>
    obtain ⟨ht, z, hi, hz⟩ := he
    obtain ⟨i, hi, hz0, hz1, hz2⟩ := info_parts hi
    refine wp_append_own w s x t ho B e i z 1 bytes ht hi hz0 hz1 hz2 hz (by decide) v xs.length xs hs hown ad ys.length c (ys.map (Value.int .i64)) hx (by simp) ?_ ?_ (by simp only [maxLen]; omega) ?_ hB ?_
    · intro j u hj
      rw [List.getElem?_map] at hj
      cases hq : ys[j]? with
      | none => rw [hq] at hj; cases hj
      | some n =>
        rw [hq] at hj
        injection hj with hj
        rw [← hj]
        exact h4 ad rfl j n hq
    · intro u hu
      rw [List.mem_map] at hu
      obtain ⟨n, _, rfl⟩ := hu
      rfl
    · have : (xs.length + ys.length) * bytes ≤ 68719476736 * 1024 := Nat.mul_le_mul (by omega) hby
      omega
    · intro v' w' ho' hg' _
      refine hK _ _ (h v' w' ?_ ?_ ?_)
      · show w'.ownsRow B e 1 v' (xs ++ ys.map (Value.int .i64)).length (xs ++ ys.map (Value.int .i64))
        rw [List.length_append, List.length_map]
        exact ho'
      · exact (Below.refl B w).grown hg' hB (fun k hk => (hown.lt k hk).1)
      · exact fun k hne hk => hg'.block k hk (fun e => hne e.symm)
theorem Own.keep {B : Nat} {e : TypeId} {w w' : World} {v : Value} {xs : List Value} (h : Own B e w v xs) (hk : ∀ k, v.ownBlock = some k → w'.heap[k]? = w.heap[k]?) : Own B e w' v xs := by
  refine ⟨h.1, ?_⟩
  rcases h.2 with h2 | ⟨k, cap, cur, r0, r1, r2, r3⟩
  · exact .inl h2
  · exact .inr ⟨k, cap, cur, r0, r1, (hk k (by subst r0; rfl)).trans r2, r3⟩
theorem Box.keep {w w' : World} {g : Nat} {t : TypeId} {cs : List Value} (h : Box w g t cs) (hk : w'.heap[g]? = w.heap[g]?) : Box w' g t cs := hk.trans h
end Go.Proofs.YthaoohckgilahaaDoor

/-
  The plain functions that the Go text computes, and the plain laws about them: lists of bytes and numbers, no program in sight.
-/
namespace Go.Proofs.YthaoohckgilahaaDoor.M
open Go

abbrev Bs := List UInt8

/-! ## marks -/
def sniff (l : Bs) : Int × Int :=
  if Lib.hasPrefix l [239, 187, 191] then (1, 3) else if Lib.hasPrefix l [254, 255] then (3, 2) else if Lib.hasPrefix l [255, 254] then (2, 2) else (0, 0)
def may (l : Bs) : Bool :=
  (decide (l.length < 3) && Lib.hasPrefix [239, 187, 191] l) || (decide (l.length < 2) && Lib.hasPrefix [254, 255] l) || (decide (l.length < 2) && Lib.hasPrefix [255, 254] l)
def markOf (n : Int) : Bs := if 1 = n then [239, 187, 191] else if 3 = n then [254, 255] else if 2 = n then [255, 254] else []
def isEnc (n : Int) : Bool := decide (1 ≤ n ∧ n ≤ 7)
def put (n : Int) (l : Bs) : Bs × Int := if isEnc n = false then ([], 6) else if 3000 < l.length then ([], 2) else (markOf n ++ l, 0)
def long (l : Bs) : Int := if 3000 < l.length then 2 else 0

/-! ## a byte a sign -/
def high : List Int := [8364, 129, 8218, 402, 8222, 8230, 8224, 8225, 710, 8240, 352, 8249, 338, 141, 381, 143, 144, 8216, 8217, 8220, 8221, 8226, 8211, 8212, 732, 8482, 353, 8250, 339, 157, 382, 376]
def pointOf (user : Bool) (c : Nat) : Int := if c < 128 then (c : Int) else if user = true then 63232 + (c : Int) else if c < 160 then high[c - 128]?.getD 0 else (c : Int)
def tableOf (user : Bool) : List Int := (List.range 256).map (pointOf user)
def idx (xs : List Int) (n : Int) : Int := match xs.findIdx? (fun x => x == n) with | some i => (i : Int) | none => -1
def byteOf (user : Bool) (n : Int) : Int := idx (tableOf user) n
def decodeS (user : Bool) (l : Bs) : List Int := l.map (fun c => pointOf user c.toNat)
def decS (user : Bool) (l : Bs) : List Int × Int := if 3000 < l.length then ([], 2) else (decodeS user l, 0)
def tellsS (user : Bool) (n : Int) : Int × Int := if byteOf user n < 0 then (0, 5) else (byteOf user n, 0)
def encodeS (user : Bool) : List Int → Option Bs
  | [] => some []
  | n :: t => if byteOf user n < 0 then none else (encodeS user t).map (UInt8.ofNat (byteOf user n).toNat :: ·)
def rawS (user : Bool) (xs : List Int) : Bs × Int := match encodeS user xs with | some b => (b, 0) | none => ([], 5)
def encS (user : Bool) (xs : List Int) : Bs × Int := if 3000 < xs.length then ([], 2) else rawS user xs
end Go.Proofs.YthaoohckgilahaaDoor.M

/-
  Labels, in plain functions and laws.
-/
namespace Go.Proofs.YthaoohckgilahaaDoor.M
open Go

def white (c : UInt8) : Bool := decide (c = 32 ∨ c = 9 ∨ c = 10 ∨ c = 12 ∨ c = 13)
def trimL (l : Bs) : Bs := l.dropWhile white
def trimR (l : Bs) : Bs := (l.reverse.dropWhile white).reverse
def trim (l : Bs) : Bs := trimR (trimL l)
def fold1 (c : UInt8) : UInt8 := if 65 ≤ c.toNat ∧ c.toNat ≤ 90 then c + 32 else c
def fold (l : Bs) : Bs := l.map fold1
def labels : List (Bs × Int) := [
  ([117, 110, 105, 99, 111, 100, 101, 45, 49, 45, 49, 45, 117, 116, 102, 45, 56], 1), ([117, 116, 102, 45, 56], 1), ([117, 116, 102, 56], 1),
  ([117, 116, 102, 45, 49, 54], 2), ([117, 116, 102, 45, 49, 54, 108, 101], 2), ([117, 110, 105, 99, 111, 100, 101], 2), ([117, 116, 102, 45, 49, 54, 98, 101], 3), ([117, 110, 105, 99, 111, 100, 101, 102, 102, 102, 101], 3),
  ([119, 105, 110, 100, 111, 119, 115, 45, 49, 50, 53, 50], 4), ([99, 112, 49, 50, 53, 50], 4), ([105, 115, 111, 45, 56, 56, 53, 57, 45, 49], 4), ([108, 97, 116, 105, 110, 49], 4), ([97, 115, 99, 105, 105], 4), ([117, 115, 45, 97, 115, 99, 105, 105], 4), ([108, 49], 4),
  ([120, 45, 117, 115, 101, 114, 45, 100, 101, 102, 105, 110, 101, 100], 5), ([105, 115, 111, 45, 50, 48, 50, 50, 45, 106, 112], 6), ([99, 115, 105, 115, 111, 50, 48, 50, 50, 106, 112], 6),
  ([114, 101, 112, 108, 97, 99, 101, 109, 101, 110, 116], 7), ([104, 122, 45, 103, 98, 45, 50, 51, 49, 50], 7), ([105, 115, 111, 45, 50, 48, 50, 50, 45, 107, 114], 7), ([105, 115, 111, 45, 50, 48, 50, 50, 45, 99, 110], 7)]
def find0 (name : Bs) : Int := match labels.find? (fun x => x.1 == name) with | some x => x.2 | none => 0
def find (s : Bs) : Int := find0 (fold (trim s))
def nameOf (n : Int) : Bs :=
  if n = 1 then [117, 116, 102, 45, 56] else if n = 2 then [117, 116, 102, 45, 49, 54, 108, 101] else if n = 3 then [117, 116, 102, 45, 49, 54, 98, 101] else if n = 4 then [119, 105, 110, 100, 111, 119, 115, 45, 49, 50, 53, 50]
  else if n = 5 then [120, 45, 117, 115, 101, 114, 45, 100, 101, 102, 105, 110, 101, 100] else if n = 6 then [105, 115, 111, 45, 50, 48, 50, 50, 45, 106, 112] else [114, 101, 112, 108, 97, 99, 101, 109, 101, 110, 116]
def trimE (s : Bs) : Bs × Int := if 3000 < s.length then ([], 2) else (trim s, 0)
def foldE (s : Bs) : Bs × Int := if 3000 < s.length then ([], 2) else (fold s, 0)
def findE (s : Bs) : Int × Int := if 3000 < s.length then (0, 2) else (find s, 0)
def nameE (n : Int) : Bs × Int := if isEnc n = true then (nameOf n, 0) else ([], 6)

theorem add32 (c : UInt8) (h : 65 ≤ c.toNat ∧ c.toNat ≤ 90) : (c + 32).toNat = c.toNat + 32 := by
  rw [UInt8.toNat_add]; show (c.toNat + 32) % 256 = _; omega
theorem fold1_nat (c : UInt8) : (fold1 c).toNat = if 65 ≤ c.toNat ∧ c.toNat ≤ 90 then c.toNat + 32 else c.toNat := by
  unfold fold1; split
  · rename_i h; exact add32 c h
  · rfl
theorem fold1_fold1 (c : UInt8) : fold1 (fold1 c) = fold1 c := by
  apply UInt8.toNat_inj.1
  rw [fold1_nat (fold1 c), fold1_nat c]
  (repeat' split) <;> omega
theorem white_nat (c : UInt8) : white c = decide (c.toNat = 32 ∨ c.toNat = 9 ∨ c.toNat = 10 ∨ c.toNat = 12 ∨ c.toNat = 13) := by
  unfold white
  rw [decide_eq_decide]
  simp only [← UInt8.toNat_inj]
  rfl
theorem white_fold1 (c : UInt8) : white (fold1 c) = white c := by
  rw [white_nat, white_nat, decide_eq_decide, fold1_nat]
  split <;> omega
theorem fold_fold (l : Bs) : fold (fold l) = fold l := by
  unfold fold; rw [List.map_map]; congr 1; funext c; exact fold1_fold1 c
theorem dropWhile_fold (l : Bs) : (fold l).dropWhile white = fold (l.dropWhile white) := by
  induction l with
  | nil => rfl
  | cons c t ih =>
    show (fold1 c :: fold t).dropWhile white = _
    rw [List.dropWhile_cons, List.dropWhile_cons, white_fold1, ih]
    split <;> rfl
theorem trim_fold (l : Bs) : trim (fold l) = fold (trim l) := by
  unfold trim trimR trimL
  rw [dropWhile_fold, show (fold (l.dropWhile white)).reverse = fold ((l.dropWhile white).reverse) from by unfold fold; rw [List.map_reverse], dropWhile_fold]
  unfold fold; rw [List.map_reverse]
theorem dropWhile_idem (p : UInt8 → Bool) (l : Bs) : (l.dropWhile p).dropWhile p = l.dropWhile p := by
  induction l with
  | nil => rfl
  | cons c t ih =>
    rw [List.dropWhile_cons]
    split
    · exact ih
    · rename_i h; rw [List.dropWhile_cons, if_neg h]
theorem trimL_of_head (l : Bs) (h : ∀ c, l.head? = some c → white c = false) : trimL l = l := by
  cases l with
  | nil => rfl
  | cons c t => rw [trimL, List.dropWhile_cons, if_neg (by rw [h c rfl]; decide)]
theorem dropWhile_head (p : UInt8 → Bool) (l : Bs) (c : UInt8) (h : (l.dropWhile p).head? = some c) : p c = false := by
  induction l with
  | nil => cases h
  | cons d t ih =>
    rw [List.dropWhile_cons] at h
    split at h
    · exact ih h
    · rename_i hd; injection h with h; subst h; simpa using hd
theorem trimR_prefix (l : Bs) : ∃ u, l = trimR l ++ u := by
  unfold trimR
  obtain ⟨u, hu⟩ := List.dropWhile_suffix (p := white) (l := l.reverse)
  refine ⟨u.reverse, ?_⟩
  have := congrArg List.reverse hu
  rw [List.reverse_append, List.reverse_reverse] at this
  exact this.symm
theorem trim_trim (l : Bs) : trim (trim l) = trim l := by
  have h1 : trimL (trim l) = trim l := by
    apply trimL_of_head
    intro c hc
    obtain ⟨u, hu⟩ := trimR_prefix (trimL l)
    cases ht : trimR (trimL l) with
    | nil => rw [trim, ht] at hc; cases hc
    | cons d t =>
      rw [trim, ht] at hc
      injection hc with hc
      subst hc
      rw [ht] at hu
      exact dropWhile_head white l d (by show (trimL l).head? = _; rw [hu]; rfl)
  show trimR (trimL (trim l)) = trim l
  rw [h1]
  show trimR (trimR (trimL l)) = trimR (trimL l)
  unfold trimR
  rw [List.reverse_reverse, dropWhile_idem]
theorem find_again (l : Bs) : find (fold (trim l)) = find l := by
  unfold find
  rw [trim_fold, trim_trim, fold_fold]
theorem trim_again (l : Bs) : trim (fold (trim l)) = fold (trim l) := by rw [trim_fold, trim_trim]
theorem dropWhile_le (p : UInt8 → Bool) (l : Bs) : (l.dropWhile p).length ≤ l.length := by
  induction l with
  | nil => exact Nat.le_refl _
  | cons c t ih => rw [List.dropWhile_cons]; split <;> simp only [List.length_cons] <;> omega
theorem trim_len (l : Bs) : (trim l).length ≤ l.length := by
  unfold trim trimR trimL
  rw [List.length_reverse]
  have h1 := dropWhile_le white (l.dropWhile white).reverse
  have h2 := dropWhile_le white l
  rw [List.length_reverse] at h1
  omega
theorem fold_len (l : Bs) : (fold l).length = l.length := by unfold fold; rw [List.length_map]
theorem trim_rev (l : Bs) : trim l = trimL (trimR l) := by
  -- both ways cut the same
  have key : ∀ l : Bs, (∃ c ∈ l, white c = false) → ∃ a m b : Bs, l = a ++ m ++ b ∧ a.all white = true ∧ b.all white = true ∧ m ≠ [] ∧ (∀ c, m.head? = some c → white c = false) ∧ (∀ c, m.getLast? = some c → white c = false) := by
    intro l hl
    have h1 : l.takeWhile white ++ l.dropWhile white = l := List.takeWhile_append_dropWhile
    have h2 : (l.dropWhile white).reverse.takeWhile white ++ (l.dropWhile white).reverse.dropWhile white = (l.dropWhile white).reverse := List.takeWhile_append_dropWhile
    have h3 := congrArg List.reverse h2
    rw [List.reverse_append, List.reverse_reverse] at h3
    refine ⟨l.takeWhile white, ((l.dropWhile white).reverse.dropWhile white).reverse, ((l.dropWhile white).reverse.takeWhile white).reverse, ?_, ?_, ?_, ?_, ?_, ?_⟩
    · rw [List.append_assoc, h3, h1]
    · exact List.all_takeWhile
    · rw [List.all_reverse]; exact List.all_takeWhile
    · intro hn
      rw [hn, List.nil_append] at h3
      obtain ⟨c, hc, hw⟩ := hl
      rw [← h1, List.mem_append] at hc
      rcases hc with hc | hc
      · have := List.all_eq_true.1 (List.all_takeWhile (p := white) (l := l)) c hc
        rw [hw] at this; cases this
      · rw [← h3, List.mem_reverse] at hc
        have := List.all_eq_true.1 (List.all_takeWhile (p := white) (l := (l.dropWhile white).reverse)) c hc
        rw [hw] at this; cases this
    · intro c hc
      have : (l.dropWhile white).head? = some c := by
        rw [← h3, List.head?_append, hc]; rfl
      exact dropWhile_head white l c this
    · intro c hc
      rw [List.getLast?_reverse] at hc
      exact dropWhile_head white _ c hc
  have hL : ∀ a m : Bs, a.all white = true → (∀ c, m.head? = some c → white c = false) → trimL (a ++ m) = m := by
    intro a m ha hm
    induction a with
    | nil => exact trimL_of_head m hm
    | cons x t ih =>
      rw [List.all_cons, Bool.and_eq_true] at ha
      rw [List.cons_append, trimL, List.dropWhile_cons, if_pos ha.1]
      exact ih ha.2
  have hR : ∀ m b : Bs, b.all white = true → (∀ c, m.getLast? = some c → white c = false) → trimR (m ++ b) = m := by
    intro m b hb hm
    have := hL b.reverse m.reverse (by rw [List.all_reverse]; exact hb) (by intro c hc; rw [List.head?_reverse] at hc; exact hm c hc)
    unfold trimR
    rw [List.reverse_append]
    unfold trimL at this
    rw [this, List.reverse_reverse]
  by_cases hl : ∃ c ∈ l, white c = false
  · obtain ⟨a, m, b, rfl, ha, hb, hm, h1, h2⟩ := key l hl
    have e1 : trimL (a ++ m ++ b) = m ++ b := by
      rw [List.append_assoc]
      refine hL a (m ++ b) ha (fun c hc => ?_)
      cases m with
      | nil => exact absurd rfl hm
      | cons x y => exact h1 c hc
    have e2 : trimR (a ++ m ++ b) = a ++ m := by
      refine hR (a ++ m) b hb (fun c hc => ?_)
      rw [List.getLast?_append] at hc
      cases hq : m.getLast? with
      | none => exact absurd (List.getLast?_eq_none_iff.1 hq) hm
      | some x => rw [hq] at hc; exact h2 c (hq.trans hc)
    rw [trim, e1, hR m b hb h2, e2, hL a m ha h1]
  · have hall : l.all white = true := by
      rw [List.all_eq_true]; intro c hc
      cases hw : white c with
      | true => rfl
      | false => exact absurd ⟨c, hc, hw⟩ hl
    have e1 : trimL l = [] := by have := hL l [] hall (by simp); rwa [List.append_nil] at this
    have e2 : trimR l = [] := by have := hR [] l hall (by simp); rwa [List.nil_append] at this
    rw [trim, e1, e2]; rfl
theorem nameE_find : ∀ n : Int, isEnc n = true → find ([10, 32] ++ nameOf n ++ [9]) = n := by
  intro n h
  have : n = 1 ∨ n = 2 ∨ n = 3 ∨ n = 4 ∨ n = 5 ∨ n = 6 ∨ n = 7 := by simp only [isEnc, decide_eq_true_eq] at h; omega
  rcases this with rfl | rfl | rfl | rfl | rfl | rfl | rfl <;> decide +kernel
end Go.Proofs.YthaoohckgilahaaDoor.M

/-
  Is a byte white: the package's word and the document's.
-/
namespace Go.Proofs.YthaoohckgilahaaDoor
open Go.RowKit
set_option maxRecDepth 1000000

theorem white_int (c : UInt8) : M.white c = (((c.toNat : Int) == 32) || ((c.toNat : Int) == 9) || ((c.toNat : Int) == 10) || ((c.toNat : Int) == 12) || ((c.toNat : Int) == 13)) := by
  rw [M.white_nat, Bool.eq_iff_iff]
  simp only [decide_eq_true_eq, Bool.or_eq_true, beq_iff_eq]
  omega
theorem isWhite_any (c : UInt8) (w : World) : Calls Tryd.prog 30 #[.int .u8 (c.toNat : Int)] w fun e w' => e = .returned (.bool (M.white c)) ∧ w = w' := by
  have H := Lib.hid (white_int c)
  have hc : c.toNat < 256 := c.toNat_lt
  generalize hn : (c.toNat : Int) = n at *
  have hn0 : 0 ≤ n ∧ n < 256 := by omega
  clear hn hc
  by_cases h1 : n = 32 <;> by_cases h2 : n = 9 <;> by_cases h3 : n = 10 <;> by_cases h4 : n = 12 <;> by_cases h5 : n = 13
  all_goals
    first
    | (exfalso; omega)
    | (go_enter Tryd.func30, Tryd.ntmps30
       go_wp2
       go_ret
       refine ⟨?_, rfl⟩
       rw [H.out]
       first
       | (simp [*]; done)
       | exact ret_bool (by cases (n == 9) <;> cases (n == 10) <;> cases (n == 12) <;> cases (n == 13) <;> cases (n == 32) <;> rfl))
theorem white_any (c : UInt8) (w : World) : Calls Tryd.prog 45 #[.int .u8 (c.toNat : Int)] w fun e w' => e = .returned (.bool (M.white c)) ∧ w = w' := by
  have H := Lib.hid (white_int c)
  have hc : c.toNat < 256 := c.toNat_lt
  generalize hn : (c.toNat : Int) = n at *
  have hn0 : 0 ≤ n ∧ n < 256 := by omega
  clear hn hc
  by_cases h1 : n = 32 <;> by_cases h2 : n = 9 <;> by_cases h3 : n = 10 <;> by_cases h4 : n = 12 <;> by_cases h5 : n = 13
  all_goals
    first
    | (exfalso; omega)
    | (go_enter Tryd.func45, Tryd.ntmps45
       go_wp2
       go_ret
       refine ⟨?_, rfl⟩
       rw [H.out]
       first
       | (simp [*]; done)
       | exact ret_bool (by cases (n == 9) <;> cases (n == 10) <;> cases (n == 12) <;> cases (n == 13) <;> cases (n == 32) <;> rfl))
end Go.Proofs.YthaoohckgilahaaDoor

/-
  Package label: Is.
-/
namespace Go.Proofs.YthaoohckgilahaaDoor
open Go.RowKit

theorem isEnc_any (n : Int) (w : World) : Calls Tryd.prog 62 #[.int .i64 n] w fun e w' => e = .returned (.bool (M.isEnc n)) ∧ w = w' := by
  by_cases h : 1 ≤ n <;> by_cases h2 : n ≤ 7
  all_goals
    go_enter Tryd.func62, Tryd.ntmps62
    go_wp2
    go_ret
    refine ⟨?_, rfl⟩
    simp [M.isEnc]
    omega
end Go.Proofs.YthaoohckgilahaaDoor

/-
  slices.IndexFunc at structs of two cells, whatever the predicate; a string out of cells that are known one by one.
-/
namespace Go.Proofs.YthaoohckgilahaaDoor
open Go.RowKit
set_option maxRecDepth 1000000

/-- The first place at which p holds; -1: none does. -/
def FirstAt (n : Nat) (p : Nat → Bool) (r : Int) : Prop := (r = -1 ∧ ∀ j, j < n → p j = false) ∨ ∃ k : Nat, k < n ∧ r = k ∧ p k = true ∧ ∀ j, j < k → p j = false
theorem ixLabel (b off n c : Nat) (zs : Nat → Value × Value) (p : Nat → Bool) (g : Nat) (lb : Array Value) (eg : ∀ args w, (callFunc g args).run Tryd.prog w = .ok (.enter g args) w) (w : World)
    (hp : ∀ (W : World) (j : Nat), j < n → Below w.heap.size w W → Calls Tryd.prog g (#[.agg #[(zs j).1, (zs j).2]] ++ lb) W fun e w' => e = .returned (.bool (p j)) ∧ Below w.heap.size w w')
    (hbig : n ≤ 9223372036854775807) (hb : b < w.heap.size) (hc : ∀ j, j < n → w.cell? ⟨b, off + j * 2, none⟩ = some (zs j).1 ∧ w.cell? ⟨b, off + j * 2 + 1, none⟩ = some (zs j).2) :
    Calls Tryd.prog 63 #[.slice (some ⟨b, off, none⟩) n c, .func (.func g) #[] lb] w fun e w' => (∃ r : Int, e = .returned (.int .i64 r) ∧ FirstAt n p r) ∧ Below w.heap.size w w' := by
  have hrow : ∀ (W : World), Below w.heap.size w W → ∀ j, j < n → W.cell? ⟨b, off + j * 2, none⟩ = some (zs j).1 ∧ W.cell? ⟨b, off + j * 2 + 1, none⟩ = some (zs j).2 := fun W hW j hj => by
    have h1 := hc j hj
    exact ⟨(hW.cell (p := ⟨b, off + j * 2, none⟩) hb).trans h1.1, (hW.cell (p := ⟨b, off + j * 2 + 1, none⟩) hb).trans h1.2⟩
  clear hc
  go_enter Tryd.func63, Tryd.ntmps63
  go_wp2
  go_loopg [5, 8] n (fun gg _ s8 wr => ∃ kk : Nat, kk ≤ n ∧ n - kk ≤ gg ∧ s8 = .int .i64 kk ∧ Aside (Below w.heap.size w wr) ∧ Aside (∀ j, j < kk → p j = false))
  case atStart => exact ⟨0, Nat.zero_le _, by omega, rfl, Below.refl _ w, fun j hj => absurd hj (Nat.not_lt_zero _)⟩
  case round =>
    obtain ⟨kk, hkk, hg, rfl, BW, A⟩ := hrel
    by_cases hlt : kk < n
    · have hltz : (kk : Int) < (n : Int) := by omega
      obtain ⟨l1, l2⟩ := hrow wr BW.out kk (by omega)
      have hcall := hp wr kk hlt BW.out
      clear hrow hp
      generalize (zs kk) = y at l1 l2 hcall
      obtain ⟨y1, y2⟩ := y
      simp only at l1 l2 hcall
      cases hq : p kk with
      | true =>
        rw [hq] at hcall
        have HQ := Lib.hid hq
        clear hq
        go_wp2_with (go_at_fn g; refine hcall.mono ?_; rintro e w' ⟨rfl, hb'⟩)
        go_ret
        exact ⟨⟨kk, rfl, .inr ⟨kk, hlt, rfl, HQ.out, A.out⟩⟩, hb'⟩
      | false =>
        rw [hq] at hcall
        have HQ := Lib.hid hq
        clear hq
        go_wp2_with (go_at_fn g; refine hcall.mono ?_; rintro e w' ⟨rfl, hb'⟩)
        go_roundg (n - (kk + 1))
        case measure => omega
        case rel =>
          refine ⟨kk + 1, by omega, by omega, by go_num, hb', (show Aside _ from fun j hj => ?_)⟩
          by_cases e : j = kk
          · subst e
            exact HQ.out
          · exact A.out j (by omega)
    · have hltz : ¬ (kk : Int) < (n : Int) := by omega
      have : kk = n := by omega
      subst this
      go_wp2
      go_ret
      exact ⟨⟨-1, rfl, .inl ⟨rfl, A.out⟩⟩, BW.out⟩
/-- 'string(b)' where the cells of b are known one by one. -/
theorem wpList_toStringC {P : Program} {w : World} {ops : Array Oper} {rest : List Oper} {o : Oper} {a : Act} {Q : Exit → Act → World → Prop} (hgd : o.guard = none) (x : Operand) (src dst e : TypeId)
    (ho : o.op = .convert src dst x) (hs : P.underlying src = some (.slice e)) (he : P.underlying e = some (.int .u8)) (hd : P.underlying dst = some .string) (g c : Nat) (l : List UInt8) (hx : a.eval x = .slice (some ⟨g, 0, none⟩) l.length c)
    (hc : ∀ j b, l[j]? = some b → w.cell? ⟨g, j, none⟩ = some (byteVal b))
    (h : wpList P ops Q rest (a.put o.dst (.string ⟨l.toArray⟩)) w) : wpList P ops Q (o :: rest) a w := by
  refine wpList_plain hgd fun K hK => ?_
  have hr : (convert src dst (.slice (some ⟨g, 0, none⟩) l.length c)).run P w = .ok (.string ⟨l.toArray⟩) w :=
    run_convert_bytes_back w src dst e ⟨g, 0, none⟩ c l hs he hd (fun j hj => by
      rw [add_zero]
      exact hc j _ (List.getElem?_eq_getElem hj))
  unfold Oper.wp execOp
  simp only [ho, Sem.run_bind, Sem.run_pure, Result.andThen_ok, hx, hr]
  exact hK _ _ h
end Go.Proofs.YthaoohckgilahaaDoor

/-
  Package label: Trimmed, Folded, Trim, Fold, Of, Find, Name.
-/
namespace Go.Proofs.YthaoohckgilahaaDoor
open Go.RowKit Go.Shelf Go.Lib
set_option maxRecDepth 1000000

theorem white_contains (c : UInt8) : [9, 10, 12, 13, 32].contains c = M.white c := by
  unfold M.white
  rw [Bool.eq_iff_iff]
  simp
  constructor <;> (rintro (h | h | h | h | h) <;> simp [h])
theorem trimS_eq (l : List UInt8) : Lib.trimS l [9, 10, 12, 13, 32] = M.trim l := by
  have e : (fun c : UInt8 => [9, 10, 12, 13, 32].contains c) = M.white := funext white_contains
  rw [M.trim_rev]
  unfold Lib.trimS Lib.trimLeftS Lib.trimRightS M.trimL M.trimR
  rw [e]
theorem trimmed_any (s : ByteArray) (w : World) (hs : s.size ≤ 9223372036854775807) : Calls Tryd.prog 61 #[.string s] w fun e w' => e = .returned (.string ⟨(M.trim s.data.toList).toArray⟩) ∧ Bel w w' := by
  have hcon : Calls Tryd.prog 77 #[.string s, .string ⟨#[9, 10, 12, 13, 32]⟩] w fun e w' => e = .returned (.string ⟨(Lib.trimS s.data.toList [9, 10, 12, 13, 32]).toArray⟩) ∧ Below w.heap.size w w' :=
    Any.strings_Trim_laid Tryd.lays160 (by kernel_rfl) s ⟨#[9, 10, 12, 13, 32]⟩ w hs (by decide) (ascii_of_all (by decide))
  rw [trimS_eq] at hcon
  generalize (⟨(M.trim s.data.toList).toArray⟩ : ByteArray) = r at hcon ⊢
  go_enter Tryd.func61, Tryd.ntmps61
  go_wp2_with (go_at_call 77; refine (hcon).mono ?_; rintro e w' ⟨rfl, hb⟩)
  go_ret
  exact ⟨rfl, hb⟩
theorem fold_at (l : List UInt8) (j : Nat) : (M.fold l)[j]? = l[j]?.map M.fold1 := by unfold M.fold; rw [List.getElem?_map]
theorem folded_any (s : ByteArray) (w : World) (hs : s.size ≤ 68719476735) : Calls Tryd.prog 50 #[.string s] w fun e w' => e = .returned (.string ⟨(M.fold s.data.toList).toArray⟩) ∧ Bel w w' := by
  have HS := Lib.hid (Lib.size_eq s)
  have HL := Lib.hid (show (M.fold s.data.toList).length = s.size by rw [M.fold_len, ← Lib.size_eq])
  go_enter Tryd.func50, Tryd.ntmps50
  go_wp2_with (first | ((with_reducible show wpList _ _ _ _ _ _); refine wpList_toBytes rfl (.tmp 6) _ _ 5 rfl Tryd.underlying9 Tryd.underlying72 Tryd.underlying5 s rfl (by omega) ?_; intro cb w2 hb2 hg2 hcb1 hcb2 hcellb hfrz))
  go_loopw [10] (fun i wr => ∃ k : Nat, k ≤ s.size ∧ i = .int .i64 k ∧ Below w.heap.size w2 wr ∧ Hid (∀ j b, s.data.toList[j]? = some b → wr.cell? ⟨w.heap.size, j, none⟩ = some (byteVal (if j < k then M.fold1 b else b))) ∧ (∀ j, j < s.size → wr.frozen? ⟨w.heap.size, j, none⟩ = false)) (fun i _ => s.size - (RowKit.intOf i).toNat)
  case atStart => exact ⟨0, by omega, rfl, Below.refl _ _, Lib.hid (fun j b hj => by rw [if_neg (by omega)]; exact hcellb j b hj), hfrz⟩
  case round =>
    obtain ⟨k, hk, rfl, hb, HC, hf⟩ := hrel
    by_cases hlt : k < s.size
    · have hbyte := byte_at s k hlt
      have hcell := HC.out k _ hbyte
      rw [if_neg (Nat.lt_irrefl k)] at hcell
      have hfz := hf k hlt
      have Hf := Lib.hid hf
      have HB := Lib.hid hbyte
      unfold byteVal at hcell
      clear hf hcellb hfrz hbyte
      generalize s[k] = c at *
      have hc0 : c.toNat < 256 := c.toNat_lt
      by_cases h1 : 65 ≤ c.toNat ∧ c.toNat ≤ 90
      · obtain ⟨h1, h2⟩ := h1
        have HN := Lib.hid (M.add32 c ⟨h1, h2⟩)
        go_wp2_with fail
        go_roundw
        case rel =>
          refine ⟨k + 1, by omega, by go_num, hb.setCell (Nat.le_refl _) _, Lib.hid (fun j b hj => ?_), fun j hj => by rw [World.frozen?_setCell]; exact Hf.out j hj⟩
          by_cases hjk : j = k
          · subst hjk
            rw [HB.out] at hj
            injection hj with hj
            subst hj
            rw [World.cell?_setCell_same _ _ _ hcell, if_pos (by omega), byteVal, M.fold1, if_pos ⟨h1, h2⟩, HN.out]
            rfl
          · rw [World.cell?_setCell_other _ _ _ _ (fun h => hjk (by injection h with _ h; exact h.symm)), HC.out j b hj]
            congr 2
            by_cases hjk2 : j < k
            · rw [if_pos hjk2, if_pos (by omega)]
            · rw [if_neg hjk2, if_neg (by omega)]
        case measure => simp [RowKit.intOf]; omega
      · have HF := Lib.hid (show M.fold1 c = c by rw [M.fold1, if_neg h1])
        have HR := Lib.hid (show ∀ j b, s.data.toList[j]? = some b → wr.cell? ⟨w.heap.size, j, none⟩ = some (byteVal (if j < k + 1 then M.fold1 b else b)) by
          intro j b hj
          rw [HC.out j b hj]
          congr 2
          by_cases hjk : j = k
          · subst hjk
            rw [HB.out] at hj
            injection hj with hj
            subst hj
            rw [if_neg (Nat.lt_irrefl _), if_pos (by omega), HF.out]
          · by_cases hjk2 : j < k
            · rw [if_pos hjk2, if_pos (by omega)]
            · rw [if_neg hjk2, if_neg (by omega)])
        by_cases h2 : 65 ≤ c.toNat
        · have h3 : ¬ c.toNat ≤ 90 := fun h => h1 ⟨h2, h⟩
          clear h1
          go_wp2_with fail
          go_roundw
          case rel => exact ⟨k + 1, by omega, by go_num, hb, HR, Hf.out⟩
          case measure => simp [RowKit.intOf]; omega
        · clear h1
          go_wp2_with fail
          go_roundw
          case rel => exact ⟨k + 1, by omega, by go_num, hb, HR, Hf.out⟩
          case measure => simp [RowKit.intOf]; omega
    · obtain rfl : k = s.size := by omega
      have HR := Lib.hid (show ∀ j b, (M.fold s.data.toList)[j]? = some b → wr.cell? ⟨w.heap.size, j, none⟩ = some (byteVal b) by
        intro j b hj
        rw [fold_at] at hj
        cases hq : s.data.toList[j]? with
        | none => rw [hq] at hj; cases hj
        | some c =>
          rw [hq] at hj
          injection hj with hj
          rw [HC.out j c hq, if_pos (by rw [Lib.size_eq]; exact (List.getElem?_eq_some_iff.1 hq).1), hj])
      clear hf hcellb hfrz HC
      go_wp2_with ((with_reducible show wpList _ _ _ _ _ _); refine wpList_toStringC rfl (.tmp 27) _ _ 5 rfl Tryd.underlying72 Tryd.underlying5 Tryd.underlying9 w.heap.size cb (M.fold s.data.toList) (by rw [HL.out]; rfl) HR.out ?_)
      go_ret
      exact ⟨rfl, hb2.upto hb (Nat.le_refl _)⟩
end Go.Proofs.YthaoohckgilahaaDoor

/-
  Attributes, in plain functions and laws.
-/
namespace Go.Proofs.YthaoohckgilahaaDoor.M
open Go

def skipB (c : UInt8) : Bool := white c || decide (c = 47)
def nameB (c : UInt8) : Bool := !white c && decide (c ≠ 47 ∧ c ≠ 62 ∧ c ≠ 61)
def valB (c : UInt8) : Bool := !white c && decide (c ≠ 62)
def labB (c : UInt8) : Bool := !white c && decide (c ≠ 59)
def quotedA (q : UInt8) (t : Bs) : Option Bs × Bs := match t.dropWhile (fun c => c != q) with | [] => (none, []) | _ :: u => (some (t.takeWhile (fun c => c != q)), u)
def valueA (l : Bs) : Option Bs × Bs :=
  match l.dropWhile white with
  | [] => (some [], [])
  | q :: t => if q = 34 ∨ q = 39 then quotedA q t else (some ((q :: t).takeWhile valB), (q :: t).dropWhile valB)
def afterA (name l : Bs) : Option (Bs × Bs) × Bs :=
  match l with
  | [] => (some (fold name, []), [])
  | e :: t => if e = 61 then ((valueA t).1.map (fun v => (fold name, fold v)), (valueA t).2) else (some (fold name, []), e :: t)
def nextA (l : Bs) : Option (Bs × Bs) × Bs :=
  match l.dropWhile skipB with
  | [] => (none, [])
  | c :: t => if c = 62 then (none, c :: t) else afterA (c :: t.takeWhile nameB) ((t.dropWhile nameB).dropWhile white)
def attrsF : Nat → Bs → List (Bs × Bs) × Bs
  | 0, l => ([], l)
  | f + 1, l => match nextA l with
    | (some a, r) => (a :: (attrsF f r).1, (attrsF f r).2)
    | (none, r) => ([], r)
def attrsA (l : Bs) : List (Bs × Bs) × Bs := attrsF (l.length + 1) l
/-- A suffix. -/
def Suf (r l : Bs) : Prop := ∃ k, k ≤ l.length ∧ r = l.drop k
theorem Suf.refl (l : Bs) : Suf l l := ⟨0, by omega, by simp⟩
theorem Suf.trans {a b c : Bs} (h : Suf a b) (g : Suf b c) : Suf a c := by
  obtain ⟨k, hk, rfl⟩ := h
  obtain ⟨m, hm, rfl⟩ := g
  rw [List.length_drop] at hk
  exact ⟨m + k, by omega, by rw [List.drop_drop]⟩
theorem Suf.len {a b : Bs} (h : Suf a b) : a.length ≤ b.length := by
  obtain ⟨k, hk, rfl⟩ := h; rw [List.length_drop]; omega
theorem Suf.at {a b : Bs} (h : Suf a b) : a = b.drop (b.length - a.length) := by
  obtain ⟨k, hk, rfl⟩ := h
  rw [List.length_drop, show b.length - (b.length - k) = k by omega]
theorem Suf.nil (l : Bs) : Suf [] l := ⟨l.length, by omega, by simp⟩
theorem Suf.tail {c : UInt8} {t l : Bs} (h : Suf (c :: t) l) : Suf t l := Suf.trans ⟨1, by simp, rfl⟩ h
theorem Suf.drop (l : Bs) (k : Nat) : Suf (l.drop k) l := by
  by_cases h : k ≤ l.length
  · exact ⟨k, h, rfl⟩
  · rw [List.drop_of_length_le (by omega)]; exact Suf.nil l
theorem suf_dropWhile (p : UInt8 → Bool) (l : Bs) : Suf (l.dropWhile p) l := by
  induction l with
  | nil => exact Suf.refl []
  | cons c t ih =>
    rw [List.dropWhile_cons]
    split
    · exact Suf.trans ih ⟨1, by simp, rfl⟩
    · exact Suf.refl _
theorem quotedA_suf (q : UInt8) (t : Bs) : Suf (quotedA q t).2 t := by
  have h := suf_dropWhile (fun c => c != q) t
  unfold quotedA
  split
  · exact Suf.nil t
  · rename_i x u hu
    rw [hu] at h
    exact h.tail
theorem valueA_suf (l : Bs) : Suf (valueA l).2 l := by
  have h := suf_dropWhile white l
  unfold valueA
  split
  · exact Suf.nil l
  · rename_i q t ht
    rw [ht] at h
    split
    · exact (quotedA_suf q t).trans h.tail
    · exact (suf_dropWhile valB _).trans h
theorem afterA_suf (name l : Bs) : Suf (afterA name l).2 l := by
  unfold afterA
  split
  · exact Suf.refl _
  · rename_i e t
    split
    · exact (valueA_suf t).trans ⟨1, by simp, rfl⟩
    · exact Suf.refl _
theorem nextA_suf (l : Bs) : Suf (nextA l).2 l := by
  have h := suf_dropWhile skipB l
  unfold nextA
  split
  · exact Suf.nil l
  · rename_i c t hc
    rw [hc] at h
    split
    · exact h
    · exact (afterA_suf _ _).trans ((suf_dropWhile white _).trans ((suf_dropWhile nameB t).trans h.tail))
theorem nextA_less (l : Bs) (a : Bs × Bs) (h : (nextA l).1 = some a) : (nextA l).2.length < l.length := by
  have h0 := (suf_dropWhile skipB l).len
  unfold nextA at h ⊢
  split at h
  · cases h
  · rename_i c t hc
    rw [hc] at h0
    split at h
    · cases h
    · rename_i hne
      simp only [if_neg hne]
      have h1 := (afterA_suf (c :: t.takeWhile nameB) ((t.dropWhile nameB).dropWhile white)).len
      have h2 := (suf_dropWhile white (t.dropWhile nameB)).len
      have h3 := (suf_dropWhile nameB t).len
      simp only [List.length_cons] at h0
      omega
theorem attrsF_enough : ∀ (f g : Nat) (l : Bs), l.length < f → l.length < g → attrsF f l = attrsF g l
  | 0, _, l, h, _ => by omega
  | _ + 1, 0, l, _, h => by omega
  | f + 1, g + 1, l, h, h2 => by
    rw [attrsF, attrsF]
    split
    · rename_i a r hn
      have hl := nextA_less l a (by rw [hn])
      rw [hn] at hl
      simp only at hl
      rw [attrsF_enough f g r (by omega) (by omega)]
    · rfl
theorem attrsA_some (l : Bs) (a : Bs × Bs) (r : Bs) (h : nextA l = (some a, r)) : attrsA l = (a :: (attrsA r).1, (attrsA r).2) := by
  have hl := nextA_less l a (by rw [h])
  rw [h] at hl
  simp only at hl
  show attrsF (l.length + 1) l = _
  rw [attrsF, h]
  simp only
  rw [attrsF_enough l.length (r.length + 1) r hl (by omega)]
  rfl
theorem attrsA_none (l r : Bs) (h : nextA l = (none, r)) : attrsA l = ([], r) := by
  show attrsF (l.length + 1) l = _
  rw [attrsF, h]
theorem attrsA_suf : ∀ (k : Nat) (l : Bs), l.length ≤ k → Suf (attrsA l).2 l ∧ (attrsA l).1.length ≤ l.length
  | k, l, h => by
    cases hn : nextA l with
    | mk o r =>
      have hs := nextA_suf l
      rw [hn] at hs
      cases o with
      | none => rw [attrsA_none l r hn]; exact ⟨hs, by simp⟩
      | some a =>
        have hl := nextA_less l a (by rw [hn])
        rw [hn] at hl
        simp only at hl
        match k, h with
        | 0, h => omega
        | k + 1, h =>
          obtain ⟨i1, i2⟩ := attrsA_suf k r (by omega)
          rw [attrsA_some l a r hn]
          refine ⟨i1.trans hs, ?_⟩
          simp only [List.length_cons]; omega
/-- Where all end: at the end, or at a >. -/
theorem nextA_end (l r : Bs) (h : nextA l = (none, r)) : r = [] ∨ ∃ t, r = 62 :: t := by
  unfold nextA at h
  split at h
  · injection h with _ h; exact .inl h.symm
  · rename_i c t hc
    split at h
    · rename_i h62; injection h with _ h; exact .inr ⟨t, by rw [← h, h62]⟩
    · unfold afterA at h
      split at h
      · cases h
      · split at h
        · injection h with h1 h2
          rename_i e t' _ _
          unfold valueA at h1 h2
          split at h1
          · cases h1
          · rename_i q u hq
            split at h1
            · rename_i hqq
              unfold quotedA at h1
              split at h1
              · rename_i hd
                rw [hq] at h2
                simp only [if_pos hqq, quotedA, hd] at h2
                exact .inl h2.symm
              · cases h1
            · cases h1
        · cases h
/-! ## A charset -/
def charset7 : Bs := [99, 104, 97, 114, 115, 101, 116]
def charOf (l : Bs) : Int :=
  match l.dropWhile white with
  | [] => find []
  | q :: t => if q = 34 ∨ q = 39 then (match (quotedA q t).1 with | some v => find v | none => 0) else find ((q :: t).takeWhile labB)
def behindEq (r : Bs) : Option Bs := match r with | e :: u => if e = 61 then some u else none | [] => none
def charF : Nat → Bs → Int
  | 0, _ => 0
  | _ + 1, [] => 0
  | f + 1, c :: t => if Lib.hasPrefix (fold (c :: t)) charset7 = true then
      (match behindEq (((c :: t).drop 7).dropWhile white) with | some u => charOf u | none => charF f (((c :: t).drop 7).dropWhile white))
    else charF f t
def charA (l : Bs) : Int := charF l.length l
def charE (l : Bs) : Int × Int := if 3000 < l.length then (0, 2) else (charA l, 0)
theorem charF_enough : ∀ (f g : Nat) (l : Bs), l.length ≤ f → l.length ≤ g → charF f l = charF g l
  | 0, g, l, h, _ => by
    have : l = [] := List.eq_nil_of_length_eq_zero (by omega)
    subst this
    cases g <;> rfl
  | f + 1, 0, l, _, h => by
    have : l = [] := List.eq_nil_of_length_eq_zero (by omega)
    subst this
    rfl
  | f + 1, g + 1, [], _, _ => rfl
  | f + 1, g + 1, c :: t, h, h2 => by
    have h1 := (suf_dropWhile white ((c :: t).drop 7)).len
    rw [List.length_drop] at h1
    simp only [List.length_cons] at h h1 h2
    rw [charF, charF, charF_enough f g t (by omega) (by omega), charF_enough f g (((c :: t).drop 7).dropWhile white) (by omega) (by omega)]
theorem charA_nil : charA [] = 0 := rfl
theorem charA_step (c : UInt8) (t : Bs) (h : Lib.hasPrefix (fold (c :: t)) charset7 = false) : charA (c :: t) = charA t := by
  show charF (t.length + 1) (c :: t) = _
  rw [charF, if_neg (by rw [h]; decide)]; rfl
theorem charA_eq (c : UInt8) (t u : Bs) (h : Lib.hasPrefix (fold (c :: t)) charset7 = true) (h2 : behindEq (((c :: t).drop 7).dropWhile white) = some u) : charA (c :: t) = charOf u := by
  show charF (t.length + 1) (c :: t) = _
  rw [charF, if_pos h, h2]
theorem charA_no (c : UInt8) (t : Bs) (h : Lib.hasPrefix (fold (c :: t)) charset7 = true) (h2 : behindEq (((c :: t).drop 7).dropWhile white) = none) : charA (c :: t) = charA (((c :: t).drop 7).dropWhile white) := by
  have h1 := (suf_dropWhile white ((c :: t).drop 7)).len
  rw [List.length_drop] at h1
  simp only [List.length_cons] at h1
  show charF (t.length + 1) (c :: t) = _
  rw [charF, if_pos h, h2]
  exact charF_enough _ _ _ (by omega) (by omega)
/-- Bytes ahead of which it stands nowhere. -/
theorem charA_skip : ∀ (k : Nat) (l : Bs), (∀ j, j < k → Lib.hasPrefix (fold (l.drop j)) charset7 = false) → charA l = charA (l.drop k)
  | 0, l, _ => by simp
  | k + 1, [], _ => by simp
  | k + 1, c :: t, h => by
    rw [charA_step c t (by have := h 0 (by omega); simpa using this), charA_skip k t (fun j hj => by have := h (j + 1) (by omega); simpa using this)]
    simp
end Go.Proofs.YthaoohckgilahaaDoor.M

/-
  Package attr: the reader: here, pass, one.
-/
namespace Go.Proofs.YthaoohckgilahaaDoor
open Go.RowKit
set_option maxRecDepth 1000000

/-- Of all that lay there only block g may have changed. -/
structure Bes (g : Nat) (w w' : World) : Prop where
  os : w'.os = w.os
  tape : w'.tape = w.tape
  output : w'.output = w.output
  size : w.heap.size ≤ w'.heap.size
  block : ∀ k, k < w.heap.size → k ≠ g → w'.heap[k]? = w.heap[k]?
theorem Bes.refl (g : Nat) (w : World) : Bes g w w := ⟨rfl, rfl, rfl, Nat.le_refl _, fun _ _ _ => rfl⟩
theorem Bes.trans {g : Nat} {a b c : World} (h : Bes g a b) (k : Bes g b c) : Bes g a c :=
  ⟨k.os.trans h.os, k.tape.trans h.tape, k.output.trans h.output, Nat.le_trans h.size k.size, fun j hj hg => (k.block j (Nat.lt_of_lt_of_le hj h.size) hg).trans (h.block j hj hg)⟩
theorem Bes.of_bel {g : Nat} {a b : World} (h : Bel a b) : Bes g a b := ⟨h.os, h.tape, h.output, h.size, fun j hj _ => h.block j hj⟩
theorem Bes.bel {g : Nat} {a b c : World} (h : Bel a b) (k : Bes g b c) (hg : a.heap.size ≤ g) : Bel a c :=
  ⟨k.os.trans h.os, k.tape.trans h.tape, k.output.trans h.output, Nat.le_trans h.size k.size, fun j hj => (k.block j (Nat.lt_of_lt_of_le hj h.size) (by omega)).trans (h.block j hj)⟩
theorem Bes.setCell {g : Nat} {a b : World} (h : Bes g a b) (o : Nat) (u : Value) : Bes g a (b.setCell ⟨g, o, none⟩ u) := by
  refine ⟨h.os, h.tape, h.output, ?_, fun k hk hg => ?_⟩
  · rw [World.size_setCell]; exact h.size
  · exact (Below.heap_setCell b _ u k hg).trans (h.block k hk hg)
theorem Bes.setNew {g : Nat} {a b : World} (h : Bes g a b) {p : Addr} (hp : a.heap.size ≤ p.block) (u : Value) : Bes g a (b.setCell p u) := by
  refine ⟨h.os, h.tape, h.output, ?_, fun k hk hg => ?_⟩
  · rw [World.size_setCell]; exact h.size
  · exact (Below.heap_setCell b _ u k (by omega)).trans (h.block k hk hg)
theorem Bes.box {g j : Nat} {a b : World} {t : TypeId} {cs : List Value} (h : Bes g a b) (hb : Box a j t cs) (hj : j ≠ g) : Box b j t cs := (h.block j hb.lt hj).trans hb

/-- A reader at g: it holds a text and a place in it. -/
def Rd (w : World) (g : Nat) (s : ByteArray) (k : Nat) : Prop := Box w g 50 [.string s, .int .i64 (k : Int)]
theorem Rd.bel {w w' : World} {g : Nat} {s : ByteArray} {k : Nat} (h : Rd w g s k) (hb : Bel w w') : Rd w' g s k := Box.bel h hb
theorem Rd.move {w : World} {g : Nat} {s : ByteArray} {k : Nat} (h : Rd w g s k) (j : Nat) : Rd (w.setCell ⟨g, 1, none⟩ (.int .i64 (j : Int))) g s j := Box.set h 1 _

/-- What is asked of a predicate on bytes that may look at the reader's place. -/
def Says (gf : Nat) (lb : Array Value) (g : Nat) (s : ByteArray) (w : World) (p : Nat → UInt8 → Bool) : Prop :=
  ∀ (W : World) (k : Nat) (c : UInt8), Bes g w W → Rd W g s k → Calls Tryd.prog gf (#[.int .u8 (c.toNat : Int)] ++ lb) W fun e w' => e = .returned (.bool (p k c)) ∧ ∃ m, w' = W.drewN m
theorem Says.bes {gf : Nat} {lb : Array Value} {g : Nat} {s : ByteArray} {w w' : World} {p : Nat → UInt8 → Bool} (h : Says gf lb g s w p) (hb : Bes g w w') : Says gf lb g s w' p :=
  fun W k c hB hR => h W k c (hb.trans hB) hR
def hereP (l : List UInt8) (p : Nat → UInt8 → Bool) (k : Nat) : Bool := match l[k]? with | some c => p k c | none => false
theorem here_any (g : Nat) (s : ByteArray) (k : Nat) (gf : Nat) (lb : Array Value) (p : Nat → UInt8 → Bool) (w : World) (hr : Rd w g s k) (hk : k ≤ s.size) (eg : ∀ args w, (callFunc gf args).run Tryd.prog w = .ok (.enter gf args) w)
    (hp : Says gf lb g s w p) : Calls Tryd.prog 46 #[.pointer (some ⟨g, 0, none⟩), .func (.func gf) #[] lb] w fun e w' => e = .returned (.bool (hereP s.data.toList p k)) ∧ ∃ m, w' = w.drewN m := by
  have c0 := Box.cell hr 0 _ rfl
  have c1 := Box.cell hr 1 _ rfl
  by_cases hlt : k < s.size
  · have hcall := fun n => hp (w.drewN n) k s[k] (Bes.of_bel ((Bel.refl w).drewN n)) (Box.drewN hr n)
    have HP := Lib.hid (show hereP s.data.toList p k = p k s[k] by rw [hereP, byte_at s k hlt])
    generalize p k s[k] = q at hcall HP
    have HC := Lib.hid hcall
    clear hp hr hcall
    have hi : decide ((k : Int) < (s.size : Int)) = true := by simpa using hlt
    go_enter Tryd.func46, Tryd.ntmps46
    go_wp2_with fail
    go_quiet (first | (go_at_fn gf; exact Calls.quiet_of (HC.out _)))
    go_wp2
    go_ret
    exact ⟨by rw [HP.out]; rfl, _, rfl⟩
  · have HP := Lib.hid (show hereP s.data.toList p k = false by rw [hereP, List.getElem?_eq_none (by rw [← Lib.size_eq]; omega)])
    clear hp hr
    have hi : decide ((k : Int) < (s.size : Int)) = false := by simpa using hlt
    go_enter Tryd.func46, Tryd.ntmps46
    go_wp2_with fail
    go_quiet (fail)
    go_wp2
    go_ret
    exact ⟨by rw [HP.out]; rfl, _, rfl⟩
/-- How many bytes are passed. -/
def passN (p : Nat → UInt8 → Bool) : Nat → List UInt8 → Nat
  | _, [] => 0
  | k, c :: t => if p k c = true then passN p (k + 1) t + 1 else 0
theorem passN_le (p : Nat → UInt8 → Bool) : ∀ (k : Nat) (l : List UInt8), passN p k l ≤ l.length
  | _, [] => Nat.le_refl _
  | k, c :: t => by
    rw [passN]; split
    · have := passN_le p (k + 1) t; simp only [List.length_cons]; omega
    · exact Nat.zero_le _
theorem passN_step (p : Nat → UInt8 → Bool) (l : List UInt8) (k : Nat) (h : hereP l p k = true) : passN p k (l.drop k) = passN p (k + 1) (l.drop (k + 1)) + 1 := by
  unfold hereP at h
  cases hc : l[k]? with
  | none => rw [hc] at h; cases h
  | some c =>
    rw [hc] at h
    have hk := (List.getElem?_eq_some_iff.1 hc).1
    have e : l.drop k = c :: l.drop (k + 1) := by
      rw [List.drop_eq_getElem_cons hk, (List.getElem?_eq_some_iff.1 hc).2]
    rw [e, passN, if_pos h]
theorem passN_stop (p : Nat → UInt8 → Bool) (l : List UInt8) (k : Nat) (h : hereP l p k = false) : passN p k (l.drop k) = 0 := by
  unfold hereP at h
  cases hc : l[k]? with
  | none => rw [List.drop_eq_nil_of_le (List.getElem?_eq_none_iff.1 hc)]; rfl
  | some c =>
    rw [hc] at h
    have hk := (List.getElem?_eq_some_iff.1 hc).1
    have e : l.drop k = c :: l.drop (k + 1) := by
      rw [List.drop_eq_getElem_cons hk, (List.getElem?_eq_some_iff.1 hc).2]
    rw [e, passN, if_neg (by show ¬ p k c = true; rw [show p k c = false from h]; decide)]
theorem here_lt (l : List UInt8) (p : Nat → UInt8 → Bool) (k : Nat) (h : hereP l p k = true) : k < l.length := by
  unfold hereP at h
  cases hc : l[k]? with
  | none => rw [hc] at h; cases h
  | some c => exact (List.getElem?_eq_some_iff.1 hc).1
theorem cut_str (s : ByteArray) (k n : Nat) : (s.extract k (k + n)) = ⟨((s.data.toList.drop k).take n).toArray⟩ := by
  have h : (s.extract k (k + n)).data.toList = (s.data.toList.drop k).take n := by
    rw [Lib.extract_data, show k + n - k = n by omega]
  rw [← h, str_eq]
theorem pass_any (g : Nat) (s : ByteArray) (k : Nat) (gf : Nat) (lb : Array Value) (p : Nat → UInt8 → Bool) (w : World) (hr : Rd w g s k) (hk : k ≤ s.size) (hs : s.size ≤ 68719476735) (eg : ∀ args w, (callFunc gf args).run Tryd.prog w = .ok (.enter gf args) w)
    (hp : Says gf lb g s w p) : Calls Tryd.prog 43 #[.pointer (some ⟨g, 0, none⟩), .func (.func gf) #[] lb] w fun e w' => e = .returned (.string ⟨((s.data.toList.drop k).take (passN p k (s.data.toList.drop k))).toArray⟩) ∧ Rd w' g s (k + passN p k (s.data.toList.drop k)) ∧ Bes g w w' := by
  have hc1 := Box.cell hr 1 _ rfl
  have HS := Lib.hid (Lib.size_eq s)
  have HC := Lib.hid (cut_str s k)
  obtain ⟨n, hn⟩ : ∃ n, passN p k (s.data.toList.drop k) = n := ⟨_, rfl⟩
  rw [hn]
  have HN := Lib.hid hn
  clear hn
  go_enter Tryd.func43, Tryd.ntmps43
  go_wp2_with fail
  clear hc1
  go_loopg [12] (s.size + 1) (fun gg _ wr => ∃ j : Nat, k + j ≤ s.size ∧ s.size - (k + j) ≤ gg ∧ Rd wr g s (k + j) ∧ Bes g w wr ∧ Hid (n = j + passN p (k + j) (s.data.toList.drop (k + j))))
  case atStart => exact ⟨0, by omega, by omega, hr, Bes.refl _ _, Lib.hid (by rw [← HN.out]; simp)⟩
  case round =>
    clear hr hk
    obtain ⟨j, hk, hg, hr, hb, HJ⟩ := hrel
    cases hh : hereP s.data.toList p (k + j) with
    | true =>
      have HH := Lib.hid hh
      have hlt : k + j < s.size := by rw [Lib.size_eq]; exact here_lt _ _ _ hh
      have HJ2 := Lib.hid (show n = (j + 1) + passN p (k + (j + 1)) (s.data.toList.drop (k + (j + 1))) by
        have := HJ.out
        rw [passN_step p _ _ hh] at this
        rw [this, show k + (j + 1) = k + j + 1 by omega]; omega)
      clear hh
      go_wp2_with fail
      refine (here_any g s (k + j) gf lb p wr hr hk eg (hp.bes hb)).mono ?_
      rintro e w1 ⟨rfl, m, rfl⟩
      rw [HH.out]
      have hr1 : Rd (wr.drewN m) g s (k + j) := Box.drewN hr m
      have hb1 : Bes g w (wr.drewN m) := hb.trans (Bes.of_bel ((Bel.refl wr).drewN m))
      generalize wr.drewN m = W at *
      clear hr hb hp
      have c1 := Box.cell hr1 1 _ rfl
      have f1 := Box.frozen hr1 1
      go_wp2_with fail
      go_roundg (s.size - (k + (j + 1)))
      case measure => omega
      case rel =>
        refine ⟨j + 1, by omega, by omega, ?_, ?_, HJ2⟩
        · have h := hr1.move (k + (j + 1))
          have e : ((k + (j + 1) : Nat) : Int) = (k : Int) + (j : Int) + 1 := by omega
          rw [e] at h
          exact h
        · exact hb1.setCell 1 _
    | false =>
      have HH := Lib.hid hh
      have HJ2 := Lib.hid (show n = j by
        have := HJ.out
        rw [passN_stop p _ _ hh] at this; omega)
      clear hh
      go_wp2_with fail
      refine (here_any g s (k + j) gf lb p wr hr hk eg (hp.bes hb)).mono ?_
      rintro e w1 ⟨rfl, m, rfl⟩
      rw [HH.out]
      have hr1 : Rd (wr.drewN m) g s (k + j) := Box.drewN hr m
      have hb1 : Bes g w (wr.drewN m) := hb.trans (Bes.of_bel ((Bel.refl wr).drewN m))
      generalize wr.drewN m = W at *
      clear hr hb hp
      have c0 := Box.cell hr1 0 _ rfl
      have c1 := Box.cell hr1 1 _ rfl
      have hbd : (0 : Int) ≤ (k : Int) ∧ (k : Int) ≤ (k : Int) + (j : Int) ∧ (k : Int) + (j : Int) ≤ (s.size : Int) := by omega
      go_wp2_with fail
      go_quiet (fail)
      go_wp2
      go_ret
      rw [HJ2.out]
      exact ⟨by rw [← HC.out]; rfl, Box.drewN hr1 _, hb1.trans (Bes.of_bel ((Bel.refl W).drewN _))⟩
/-! ## The predicates -/
theorem says_white (g : Nat) (s : ByteArray) (w : World) : Says 45 #[] g s w (fun _ c => M.white c) :=
  fun W _ c _ _ => (white_any c W).mono fun _ _ ⟨h1, h2⟩ => ⟨h1, 0, h2.symm⟩
theorem byte_eq (c d : UInt8) : ((c.toNat : Int) == (d.toNat : Int)) = (c == d) := by
  rw [Bool.eq_iff_iff]
  simp only [beq_iff_eq]
  constructor
  · intro h; exact UInt8.toNat_inj.1 (by omega)
  · intro h; rw [h]
theorem skip_int (c : UInt8) : M.skipB c = (M.white c || ((c.toNat : Int) == 47)) := by
  rw [M.skipB]; congr 1; rw [Bool.eq_iff_iff]; simp only [decide_eq_true_eq, beq_iff_eq, ← UInt8.toNat_inj]; have e47 : UInt8.toNat 47 = 47 := rfl
  constructor <;> (intro h; omega)
theorem end_int (c : UInt8) : (c != 62) = ((c.toNat : Int) != 62) := by
  have e62 : UInt8.toNat 62 = 62 := rfl
  rw [Bool.eq_iff_iff]; simp only [bne_iff_ne, ne_eq, ← UInt8.toNat_inj]; constructor <;> (intro h h2; apply h; omega)
theorem val_int (c : UInt8) : M.valB c = (!M.white c && ((c.toNat : Int) != 62)) := by
  rw [M.valB, ← end_int]; congr 1; rw [Bool.eq_iff_iff]; simp
theorem lab_int (c : UInt8) : M.labB c = (!M.white c && ((c.toNat : Int) != 59)) := by
  rw [M.labB]; congr 1; rw [Bool.eq_iff_iff]; simp only [decide_eq_true_eq, bne_iff_ne, ne_eq, ← UInt8.toNat_inj]
  have e59 : UInt8.toNat 59 = 59 := rfl
  constructor <;> (intro h h2; apply h; omega)
theorem says_skip (g : Nat) (s : ByteArray) (w : World) : Says 44 #[] g s w (fun _ c => M.skipB c) := fun W _ c _ _ => by
  have H := Lib.hid (skip_int c)
  show Calls Tryd.prog 44 #[.int .u8 (c.toNat : Int)] W _
  cases hw : M.white c
  all_goals
    have HW := Lib.hid hw
    clear hw
    go_enter Tryd.func44, Tryd.ntmps44
    go_wp2_with (go_at_call 45; refine (white_any c _).mono ?_; rintro e w' ⟨rfl, rfl⟩; rw [HW.out])
    go_ret
    exact ⟨by rw [H.out, HW.out]; rfl, 0, rfl⟩
theorem says_end (g : Nat) (s : ByteArray) (w : World) : Says 47 #[] g s w (fun _ c => c != 62) := fun W _ c _ _ => by
  have H := Lib.hid (end_int c)
  show Calls Tryd.prog 47 #[.int .u8 (c.toNat : Int)] W _
  go_enter Tryd.func47, Tryd.ntmps47
  go_wp2_with fail
  go_ret
  exact ⟨by rw [H.out]; rfl, 0, rfl⟩
theorem says_val (g : Nat) (s : ByteArray) (w : World) : Says 68 #[] g s w (fun _ c => M.valB c) := fun W _ c _ _ => by
  have H := Lib.hid (val_int c)
  show Calls Tryd.prog 68 #[.int .u8 (c.toNat : Int)] W _
  cases hw : M.white c
  all_goals
    have HW := Lib.hid hw
    clear hw
    go_enter Tryd.func68, Tryd.ntmps68
    go_wp2_with (go_at_call 45; refine (white_any c _).mono ?_; rintro e w' ⟨rfl, rfl⟩; rw [HW.out])
    go_ret
    exact ⟨by rw [H.out, HW.out]; rfl, 0, rfl⟩
theorem says_lab (g : Nat) (s : ByteArray) (w : World) : Says 70 #[] g s w (fun _ c => M.labB c) := fun W _ c _ _ => by
  have H := Lib.hid (lab_int c)
  show Calls Tryd.prog 70 #[.int .u8 (c.toNat : Int)] W _
  cases hw : M.white c
  all_goals
    have HW := Lib.hid hw
    clear hw
    go_enter Tryd.func70, Tryd.ntmps70
    go_wp2_with (go_at_call 45; refine (white_any c _).mono ?_; rintro e w' ⟨rfl, rfl⟩; rw [HW.out])
    go_ret
    exact ⟨by rw [H.out, HW.out]; rfl, 0, rfl⟩
end Go.Proofs.YthaoohckgilahaaDoor

/-
  Package attr: predicates that hold variables; quoted, value.
-/
namespace Go.Proofs.YthaoohckgilahaaDoor
open Go.RowKit
set_option maxRecDepth 1000000

theorem passN_const (p : UInt8 → Bool) : ∀ (k : Nat) (l : List UInt8), passN (fun _ => p) k l = (l.takeWhile p).length
  | _, [] => rfl
  | k, c :: t => by
    rw [passN, List.takeWhile_cons]
    split
    · rw [passN_const p (k + 1) t]; rfl
    · rfl
theorem take_while (p : UInt8 → Bool) (l : List UInt8) : l.take (l.takeWhile p).length = l.takeWhile p := by
  conv => lhs; rw [← List.takeWhile_append_dropWhile (p := p) (l := l)]
  rw [List.takeWhile_append_dropWhile]
  have h := List.takeWhile_append_dropWhile (p := p) (l := l)
  conv => lhs; arg 2; rw [← h]
  rw [List.take_left]
theorem drop_while (p : UInt8 → Bool) (l : List UInt8) : l.drop (l.takeWhile p).length = l.dropWhile p := by
  have h := List.takeWhile_append_dropWhile (p := p) (l := l)
  conv => lhs; arg 2; rw [← h]
  rw [List.drop_left]
theorem pass_to (g : Nat) (s : ByteArray) (k : Nat) (gf : Nat) (lb : Array Value) (p : UInt8 → Bool) (l : List UInt8) (w : World) (hr : Rd w g s k) (hk : k ≤ s.size) (hl : s.data.toList.drop k = l) (hs : s.size ≤ 68719476735) (eg : ∀ args w, (callFunc gf args).run Tryd.prog w = .ok (.enter gf args) w)
    (hp : Says gf lb g s w (fun _ c => p c)) : Calls Tryd.prog 43 #[.pointer (some ⟨g, 0, none⟩), .func (.func gf) #[] lb] w fun e w' => e = .returned (.string ⟨(l.takeWhile p).toArray⟩) ∧ ∃ k', k' ≤ s.size ∧ Rd w' g s k' ∧ s.data.toList.drop k' = l.dropWhile p ∧ Bes g w w' := by
  refine (pass_any g s k gf lb (fun _ c => p c) w hr hk hs eg hp).mono ?_
  rintro e w' ⟨rfl, hr', hb⟩
  rw [hl, passN_const] at hr'
  rw [hl, passN_const, take_while]
  refine ⟨rfl, _, ?_, hr', ?_, hb⟩
  · have h1 : (l.takeWhile (fun c => p c)).length ≤ l.length := (List.takeWhile_prefix p).length_le
    have h2 : l.length = s.size - k := by rw [← hl, List.length_drop, ← Lib.size_eq]
    omega
  · rw [← drop_while p l, ← hl, List.drop_drop]
def headP (p : UInt8 → Bool) : List UInt8 → Bool | c :: _ => p c | [] => false
theorem hereP_drop (l : List UInt8) (p : UInt8 → Bool) (k : Nat) (r : List UInt8) (h : l.drop k = r) : hereP l (fun _ => p) k = headP p r := by
  unfold hereP
  rw [← List.head?_drop, h]
  cases r <;> rfl
theorem here_to (g : Nat) (s : ByteArray) (k : Nat) (gf : Nat) (lb : Array Value) (p : UInt8 → Bool) (l : List UInt8) (b : Bool) (w : World) (hr : Rd w g s k) (hk : k ≤ s.size) (hl : s.data.toList.drop k = l) (hb : headP p l = b) (eg : ∀ args w, (callFunc gf args).run Tryd.prog w = .ok (.enter gf args) w)
    (hp : Says gf lb g s w (fun _ c => p c)) : Calls Tryd.prog 46 #[.pointer (some ⟨g, 0, none⟩), .func (.func gf) #[] lb] w fun e w' => e = .returned (.bool b) ∧ Rd w' g s k ∧ Bel w w' := by
  refine (here_any g s k gf lb (fun _ c => p c) w hr hk eg hp).mono ?_
  rintro e w' ⟨rfl, m, rfl⟩
  rw [hereP_drop _ _ _ l hl, ← hb]
  exact ⟨rfl, Box.drewN hr m, (Bel.refl w).drewN m⟩
theorem one_any (l : ByteArray) (w : World) : Calls Tryd.prog 49 #[.string l] w fun e w' => e = .returned (.func (.func 65) #[] #[.pointer (some ⟨w.heap.size, 0, none⟩)]) ∧ w.alloc (.cells #[.string l] 9) = w' := by
  go_enter Tryd.func49, Tryd.ntmps49
  go_wp2_with fail
  go_ret
  exact ⟨rfl, rfl⟩
theorem says_one (g : Nat) (s : ByteArray) (w : World) (b : Nat) (l : ByteArray) (hb : b ≠ g) (hbox : Box w b 9 [.string l]) (p : UInt8 → Bool) (hp : ∀ c : UInt8, decide (0 ≤ Lib.indexByte l.data.toList c) = p c) : Says 65 #[.pointer (some ⟨b, 0, none⟩)] g s w (fun _ c => p c) := fun W _ c hB _ => by
  have hc := (hB.box hbox hb).cell 0 _ rfl
  have H := Lib.hid (hp c)
  show Calls Tryd.prog 65 #[.int .u8 (c.toNat : Int), .pointer (some ⟨b, 0, none⟩)] W _
  have he : ((c.toNat : Int)).toNat.toUInt8 = c := by rw [Int.toNat_natCast]; exact UInt8.ofNat_toNat
  have hcall := Tryd.strings_IndexByte l (c.toNat : Int) W
  rw [he] at hcall
  clear he hbox hB
  go_enter Tryd.func65, Tryd.ntmps65
  go_wp2_with (go_at_call 66; refine (hcall).mono ?_; rintro e w' ⟨rfl, rfl⟩)
  go_ret
  exact ⟨by rw [← H.out]; exact ret_bool (by simp), 0, rfl⟩
theorem says_not (g : Nat) (s : ByteArray) (w : World) (b : Nat) (q : UInt8) (hb : b ≠ g) (hbox : Box w b 5 [.int .u8 (q.toNat : Int)]) : Says 79 #[.pointer (some ⟨b, 0, none⟩)] g s w (fun _ c => c != q) := fun W _ c hB _ => by
  have hc := (hB.box hbox hb).cell 0 _ rfl
  have H := Lib.hid (show (c != q) = ((c.toNat : Int) != (q.toNat : Int)) by rw [bne, bne, byte_eq])
  show Calls Tryd.prog 79 #[.int .u8 (c.toNat : Int), .pointer (some ⟨b, 0, none⟩)] W _
  clear hbox hB
  go_enter Tryd.func79, Tryd.ntmps79
  go_wp2_with fail
  go_ret
  exact ⟨by rw [H.out]; rfl, 0, rfl⟩
theorem isQuote (c : UInt8) : decide (0 ≤ Lib.indexByte [34, 39] c) = (c == 34 || c == 39) := by
  have e1 : ((34 : UInt8) == c) = (c == 34) := by rw [Bool.eq_iff_iff, beq_iff_eq, beq_iff_eq]; exact ⟨Eq.symm, Eq.symm⟩
  have e2 : ((39 : UInt8) == c) = (c == 39) := by rw [Bool.eq_iff_iff, beq_iff_eq, beq_iff_eq]; exact ⟨Eq.symm, Eq.symm⟩
  simp only [Lib.indexByte, e1, e2]
  cases (c == 34) <;> cases (c == 39) <;> rfl
theorem isEq (c : UInt8) : decide (0 ≤ Lib.indexByte [61] c) = (c == 61) := by
  have e1 : ((61 : UInt8) == c) = (c == 61) := by rw [Bool.eq_iff_iff, beq_iff_eq, beq_iff_eq]; exact ⟨Eq.symm, Eq.symm⟩
  simp only [Lib.indexByte, e1]
  cases (c == 61) <;> rfl
theorem quoted_any (g : Nat) (s : ByteArray) (k : Nat) (q : UInt8) (l : List UInt8) (w : World) (hr : Rd w g s k) (hk : k ≤ s.size) (hl : s.data.toList.drop k = q :: l) (hs : s.size ≤ 68719476735) :
    Calls Tryd.prog 67 #[.pointer (some ⟨g, 0, none⟩)] w fun e w' => e = .returned (.tuple #[.string ⟨((M.quotedA q l).1.getD []).toArray⟩, .bool (M.quotedA q l).1.isSome]) ∧ ∃ k', k' ≤ s.size ∧ Rd w' g s k' ∧ s.data.toList.drop k' = (M.quotedA q l).2 ∧ Bes g w w' := by
  have hlen : s.size - k = l.length + 1 := by rw [Lib.size_eq, ← List.length_drop, hl]; rfl
  have hlt : k < s.size := by omega
  have hgl : g < w.heap.size := Box.lt hr
  have hgn : g ≠ w.heap.size := by omega
  have c0 := Box.cell hr 0 _ rfl
  have c1 := Box.cell hr 1 _ rfl
  have hq : s[k] = q := by
    have h1 := byte_at s k hlt
    rw [← List.head?_drop, hl] at h1
    injection h1 with h1
    exact h1.symm
  have hbd : (0 : Int) ≤ (k : Int) ∧ (k : Int) < (s.size : Int) := by omega
  go_enter Tryd.func67, Tryd.ntmps67
  go_wp2_with fail
  go_region
  have hbox : Box (w.alloc (.cells #[.int .u8 (q.toNat : Int)] 5)).drew w.heap.size 5 [.int .u8 (q.toNat : Int)] := Box.new w 5 [.int .u8 (q.toNat : Int)]
  have hb1 : Bel w (w.alloc (.cells #[.int .u8 (q.toNat : Int)] 5)).drew := ((Bel.refl w).alloc _).drew
  generalize (w.alloc (.cells #[.int .u8 (q.toNat : Int)] 5)).drew = W at *
  have hr1 := hr.bel hb1
  clear c0 c1 hr hgl
  have c1 := Box.cell hr1 1 _ rfl
  have f1 := Box.frozen hr1 1
  go_wp2_with fail
  have hr2 : Rd (W.setCell ⟨g, 1, none⟩ (.int .i64 ((k : Int) + 1))) g s (k + 1) := hr1.move (k + 1)
  have hB2 : Bes g w (W.setCell ⟨g, 1, none⟩ (.int .i64 ((k : Int) + 1))) := (Bes.of_bel hb1).setCell 1 _
  have hbox2 : Box (W.setCell ⟨g, 1, none⟩ (.int .i64 ((k : Int) + 1))) w.heap.size 5 [.int .u8 (q.toNat : Int)] := hbox.far (p := ⟨g, 1, none⟩) (fun h => hgn h.symm) _
  generalize W.setCell ⟨g, 1, none⟩ (.int .i64 ((k : Int) + 1)) = W2 at *
  have hl2 : s.data.toList.drop (k + 1) = l := by rw [← List.drop_drop, hl]; rfl
  refine (pass_to g s (k + 1) 79 #[.pointer (some ⟨w.heap.size, 0, none⟩)] (fun c => c != q) l W2 hr2 (by omega) hl2 hs (enters_of Tryd.func79 (by kernel_rfl) rfl) (says_not g s W2 _ q (fun h => hgn h.symm) hbox2)).mono ?_
  rintro e W3 ⟨rfl, k', hk', hr3, hl3, hB3⟩
  have hB := hB2.trans hB3
  have c0 := Box.cell hr3 0 _ rfl
  have c3 := Box.cell hr3 1 _ rfl
  clear hr1 hr2 c1 f1 hbox hbox2 hb1 hB2 hB3
  have hlen3 : s.size - k' = (l.dropWhile (fun c => c != q)).length := by rw [Lib.size_eq, ← List.length_drop, hl3]
  go_wp2_with fail
  go_quiet (fail)
  cases hd : l.dropWhile (fun c => c != q) with
  | nil =>
    have HQ := Lib.hid (show M.quotedA q l = (none, []) by rw [M.quotedA, hd])
    rw [hd, List.length_nil] at hlen3
    obtain rfl : k' = s.size := by omega
    clear hd
    go_wp2_with fail
    go_ret2
    rw [HQ.out]
    refine ⟨rfl, s.size, Nat.le_refl _, Box.drewN hr3 _, ?_, hB.trans (Bes.of_bel ((Bel.refl W3).drewN _))⟩
    rw [List.drop_eq_nil_of_le (by rw [← Lib.size_eq]; exact Nat.le_refl _)]
  | cons x u =>
    have HQ := Lib.hid (show M.quotedA q l = (some (l.takeWhile (fun c => c != q)), u) by rw [M.quotedA, hd])
    rw [hd, List.length_cons] at hlen3
    rw [hd] at hl3
    have hne : ((k' : Int) == (s.size : Int)) = false := by simp; omega
    clear hd
    have hr4 : Rd (W3.drewN nq) g s k' := Box.drewN hr3 _
    have hB4 : Bes g w (W3.drewN nq) := hB.trans (Bes.of_bel ((Bel.refl W3).drewN _))
    generalize W3.drewN nq = W4 at *
    clear c0 c3 hr3 hB
    have c3 := Box.cell hr4 1 _ rfl
    have f3 := Box.frozen hr4 1
    go_wp2_with fail
    go_ret2
    rw [HQ.out]
    refine ⟨rfl, k' + 1, by omega, hr4.move (k' + 1), ?_, hB4.setCell 1 _⟩
    rw [← List.drop_drop, hl3]; rfl
def attrOne (c : UInt8) : Bool := c == 34 || c == 39
theorem value_any (g : Nat) (s : ByteArray) (k : Nat) (l : List UInt8) (w : World) (hr : Rd w g s k) (hk : k ≤ s.size) (hl : s.data.toList.drop k = l) (hs : s.size ≤ 68719476735) :
    Calls Tryd.prog 51 #[.pointer (some ⟨g, 0, none⟩)] w fun e w' => e = .returned (.tuple #[.string ⟨((M.valueA l).1.getD []).toArray⟩, .bool (M.valueA l).1.isSome]) ∧ ∃ k', k' ≤ s.size ∧ Rd w' g s k' ∧ s.data.toList.drop k' = (M.valueA l).2 ∧ Bes g w w' := by
  have hgl : g < w.heap.size := Box.lt hr
  go_enter Tryd.func51, Tryd.ntmps51
  go_wp2_with fail
  refine (pass_to g s k 45 #[] M.white l w hr hk hl hs (enters_of Tryd.func45 (by kernel_rfl) rfl) (says_white g s w)).mono ?_
  rintro e W1 ⟨rfl, k1, hk1, hr1, hl1, hB1⟩
  go_wp2_with fail
  refine (one_any _ _).mono ?_
  rintro e W2 ⟨rfl, rfl⟩
  have hbq := Box.new W1 9 [.string ⟨#[34, 39]⟩]
  have hbb : Bel W1 (W1.alloc (.cells #[.string ⟨#[34, 39]⟩] 9)) := (Bel.refl W1).alloc _
  have hne : W1.heap.size ≠ g := by have := hB1.size; omega
  have hr2 := hr1.bel hbb
  have hB2 := hB1.trans (Bes.of_bel hbb)
  generalize (W1.alloc (.cells #[.string ⟨#[34, 39]⟩] 9)) = W2 at *
  have hq0 : ∃ b, headP attrOne (l.dropWhile M.white) = b := ⟨_, rfl⟩
  obtain ⟨b, hq0⟩ := hq0
  go_wp2_with fail
  refine (here_to g s k1 65 #[.pointer (some ⟨W1.heap.size, 0, none⟩)] attrOne _ b W2 hr2 hk1 hl1 hq0 (enters_of Tryd.func65 (by kernel_rfl) rfl) (says_one g s W2 _ ⟨#[34, 39]⟩ hne hbq attrOne isQuote)).mono ?_
  rintro e W3 ⟨rfl, hr3, hb3⟩
  have hB3 := hB2.trans (Bes.of_bel hb3)
  clear hr hr1 hr2 hB1 hB2 hb3 hbq hbb
  cases b with
  | true =>
    cases hd : l.dropWhile M.white with
    | nil => rw [hd] at hq0; cases hq0
    | cons q t =>
      rw [hd] at hl1 hq0
      have hq1 : q = 34 ∨ q = 39 := by simpa [headP, attrOne] using hq0
      have HV := Lib.hid (show M.valueA l = M.quotedA q t by rw [M.valueA, hd]; simp only; rw [if_pos hq1])
      clear hd
      go_wp2_with fail
      refine (quoted_any g s k1 q t W3 hr3 hk1 hl1 hs).mono ?_
      rintro e W4 ⟨rfl, k4, hk4, hr4, hl4, hB4⟩
      go_wp2_with fail
      go_ret2
      rw [HV.out]
      exact ⟨rfl, k4, hk4, hr4, hl4, hB3.trans hB4⟩
  | false =>
    have HV := Lib.hid (show M.valueA l = (some ((l.dropWhile M.white).takeWhile M.valB), (l.dropWhile M.white).dropWhile M.valB) by
      unfold M.valueA
      cases hd : l.dropWhile M.white with
      | nil => rfl
      | cons q t =>
        rw [hd] at hq0
        have hq1 : ¬ (q = 34 ∨ q = 39) := by simpa [headP, attrOne] using hq0
        simp only
        rw [if_neg hq1])
    go_wp2_with fail
    refine (pass_to g s k1 68 #[] M.valB _ W3 hr3 hk1 hl1 hs (enters_of Tryd.func68 (by kernel_rfl) rfl) (says_val g s W3)).mono ?_
    rintro e W4 ⟨rfl, k4, hk4, hr4, hl4, hB4⟩
    go_wp2_with fail
    go_ret2
    rw [HV.out]
    exact ⟨rfl, k4, hk4, hr4, hl4, hB3.trans hB4⟩
end Go.Proofs.YthaoohckgilahaaDoor

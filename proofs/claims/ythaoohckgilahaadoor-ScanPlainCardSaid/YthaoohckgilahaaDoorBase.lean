/-
  Words for memory that all proofs of this seat share: what a call leaves below its own blocks, a slice that is owned, a slice that is read. No program in sight.
-/
import Derived.WalkKit
import Derived.Lib.Hide
import Derived.Lib.Strings
import Derived.Deep.AppendLies
import Derived.Deep.Draws
import Derived.Laws.OwnMore
namespace Go.Proofs.YthaoohckgilahaaDoor
open Go.RowKit

/-- What was there when the call began is as it was. -/
def Bel (w w' : World) : Prop := Below w.heap.size w w'

theorem Bel.refl (w : World) : Bel w w := Below.refl _ _
theorem Bel.trans {a b c : World} (h : Bel a b) (k : Bel b c) : Bel a c := Below.trans h (Below.mono k h.size)
theorem Bel.drew {a w : World} (h : Bel a w) : Bel a w.drew := Below.drew h
theorem Bel.drewN {a w : World} (h : Bel a w) (n : Nat) : Bel a (w.drewN n) := ⟨h.os, h.tape, h.output, h.size, h.block⟩
theorem Bel.alloc {a w : World} (h : Bel a w) (o : Obj) : Bel a (w.alloc o) := Below.alloc h h.size o
theorem Bel.setCell {a w : World} (h : Bel a w) {p : Addr} (hp : a.heap.size ≤ p.block) (u : Value) : Bel a (w.setCell p u) := Below.setCell h hp u
theorem Bel.size {a w : World} (h : Bel a w) : a.heap.size ≤ w.heap.size := Below.size h
theorem Bel.cell {a w : World} (h : Bel a w) {p : Addr} (hp : p.block < a.heap.size) : w.cell? p = a.cell? p := Below.cell h hp
theorem Bel.frozen {a w : World} (h : Bel a w) {p : Addr} (hp : p.block < a.heap.size) : w.frozen? p = a.frozen? p := Below.frozen h hp
theorem Bel.below {a w : World} (h : Bel a w) : Below a.heap.size a w := h
theorem Bel.of {a w : World} (h : Below a.heap.size a w) : Bel a w := h
theorem Bel.upto {B : Nat} {a b c : World} (h : Bel a b) (k : Below B b c) (hB : a.heap.size ≤ B) : Bel a c := Below.trans h (Below.mono k hB)
/-- All cells and marks that lay there read as they did: two rules for the walk. -/
theorem Bel.rules {a w : World} (h : Bel a w) : (∀ b o, b < a.heap.size → w.cell? ⟨b, o, none⟩ = a.cell? ⟨b, o, none⟩) ∧ (∀ b o, b < a.heap.size → w.frozen? ⟨b, o, none⟩ = a.frozen? ⟨b, o, none⟩) :=
  ⟨fun _ _ hb => h.cell (p := ⟨_, _, none⟩) hb, fun _ _ hb => h.frozen (p := ⟨_, _, none⟩) hb⟩
theorem Bel.lt {a w : World} (h : Bel a w) {k : Nat} (hk : k < a.heap.size) : k < w.heap.size := Nat.lt_of_lt_of_le hk h.size

theorem block_of_add (a : Addr) (n : Nat) : (a.add n).block = a.block := by unfold Addr.add; split <;> rfl
theorem add_zero (g k : Nat) : (⟨g, 0, none⟩ : Addr).add k = ⟨g, k, none⟩ := by unfold Addr.add; split <;> simp_all

/-! ## A slice that is owned: its cells lie in one block from B on -/
def Own (B : Nat) (e : TypeId) (w : World) (v : Value) (xs : List Value) : Prop := w.ownsRow B e 1 v xs.length xs

section
variable {B B' : Nat} {e : TypeId} {w w' : World} {v : Value} {xs : List Value}
theorem Own.nil (B : Nat) (e : TypeId) (w : World) : Own B e w (.slice none 0 0) [] := World.ownsRow_nil _ _ _ _
theorem Own.mono (h : Own B e w v xs) (hB : B' ≤ B) : Own B' e w v xs := by
  refine ⟨h.1, ?_⟩
  rcases h.2 with h2 | ⟨g, cap, cur, r0, r1, r2⟩
  · exact .inl h2
  · exact .inr ⟨g, cap, cur, r0, Nat.le_trans hB r1, r2⟩
theorem Own.bel (h : Own B e w v xs) (hb : Bel w w') : Own B e w' v xs := by
  refine ⟨h.1, ?_⟩
  rcases h.2 with h2 | ⟨g, cap, cur, r0, r1, r2, r3⟩
  · exact .inl h2
  · exact .inr ⟨g, cap, cur, r0, r1, (hb.block g (Array.getElem?_eq_some_iff.1 r2).1).trans r2, r3⟩
theorem Own.drew (h : Own B e w v xs) : Own B e w.drew v xs := h
theorem Own.drewN (h : Own B e w v xs) (n : Nat) : Own B e (w.drewN n) v xs := h.bel ((Bel.refl w).drewN n)
theorem Own.alloc (h : Own B e w v xs) (o : Obj) : Own B e (w.alloc o) v xs := h.bel ((Bel.refl w).alloc o)
theorem Own.upto {C : Nat} (h : Own B e w v xs) (hb : Below C w w') (hC : ∀ k, v.ownBlock = some k → k < C) : Own B e w' v xs := by
  refine ⟨h.1, ?_⟩
  rcases h.2 with h2 | ⟨g, cap, cur, r0, r1, r2, r3⟩
  · exact .inl h2
  · exact .inr ⟨g, cap, cur, r0, r1, (hb.block g (hC g (by subst r0; rfl))).trans r2, r3⟩
/-- What it looks like, for the walk. -/
theorem Own.form (h : Own B e w v xs) : ∃ A c, v = .slice A xs.length c ∧ xs.length ≤ c ∧ c ≤ maxLen ∧ (A = none → xs = []) ∧
    ∀ g o p, A = some ⟨g, o, p⟩ → o = 0 ∧ p = none ∧ B ≤ g ∧ g < w.heap.size ∧ (∀ k, w.frozen? ⟨g, k, none⟩ = false) ∧ (∀ k u, xs[k]? = some u → w.cell? ⟨g, k, none⟩ = some u) := by
  rcases h.2 with ⟨rfl, hn⟩ | ⟨g, cap, cur, rfl, r1, r2, r3, r4, r5, r6⟩
  · have hx : xs = [] := List.eq_nil_of_length_eq_zero hn
    subst hx
    exact ⟨none, 0, rfl, Nat.le_refl _, Nat.zero_le _, fun _ => rfl, fun _ _ _ hh => by cases hh⟩
  · refine ⟨some ⟨g, 0, none⟩, cap, rfl, r3, r4, (fun hh => by cases hh), fun g' o p hh => ?_⟩
    injection hh with hh
    injection hh with h1 h2 h3
    subst h1; subst h2; subst h3
    refine ⟨rfl, rfl, r1, (Array.getElem?_eq_some_iff.1 r2).1, fun k => by simp [World.frozen?, r2], fun k u hu => ?_⟩
    have := World.ownsRow.cells h (g := g) rfl k u hu
    rwa [add_zero] at this
theorem Own.lt (h : Own B e w v xs) : ∀ k, v.ownBlock = some k → B ≤ k ∧ k < w.heap.size := World.ownsRow.lt h
/-- A row of cells that has just been laid. -/
theorem Own.made (w : World) (cur : List Value) (hb : B ≤ w.heap.size) (hm : cur.length ≤ maxLen) : Own B e (w.alloc (.cells cur.toArray e)) (.slice (some ⟨w.heap.size, 0, none⟩) cur.length cur.length) cur :=
  ⟨by simp, .inr ⟨w.heap.size, cur.length, cur.toArray, rfl, hb, heap_alloc_new w _, Nat.le_refl _, hm, by simp, by simp⟩⟩
end

/-- The element type's row of the table. -/
def Elem (P : Program) (t e : TypeId) (bytes : Nat) : Prop := P.underlying t = some (.slice e) ∧ ∃ z, (P.info? e).map (fun i => (i.zero, i.size, i.bytes)) = some (some z, 1, bytes) ∧ z.cells.size = 1

/-- 'out = append(out, x)', out the call's own. -/
theorem wpList_app1 {P : Program} (w : World) {ops : Array Oper} {rest : List Oper} {o : Oper} {a : Act} {Q : Exit → Act → World → Prop} (hgd : o.guard = none) (s x : Operand) (t : TypeId)
    (ho : o.op = .call { callee := .builtin .append, args := #[s, x], argTypes := #[t, t] }) {e : TypeId} {bytes : Nat} (he : Elem P t e bytes) (hby : bytes ≤ 1024)
    (B : Nat) (v : Value) (xs : List Value) (hs : a.eval s = v) (hown : Own B e w v xs) (g c : Nat) (u : Value) (hx : a.eval x = .slice (some ⟨g, 0, none⟩) 1 c)
    (hu : w.cell? ⟨g, 0, none⟩ = some u) (h1 : u.oneCell' = true) (hlen : xs.length < 68719476736) (hB : B ≤ w.heap.size)
    (h : ∀ v' w', Own B e w' v' (xs ++ [u]) → Below B w w' → (∀ k, v.ownBlock ≠ some k → k < w.heap.size → w'.heap[k]? = w.heap[k]?) → wpList P ops Q rest (a.put o.dst v') w') : wpList P ops Q (o :: rest) a w := by
  obtain ⟨ht, z, hi, hz⟩ := he
  obtain ⟨i, hi, hz0, hz1, hz2⟩ := info_parts hi
  refine wpList_append_own w hgd s x t ho B e i z 1 bytes ht hi hz0 hz1 hz2 hz (by decide) v xs.length xs hs hown ⟨g, 0, none⟩ 1 c [u] hx rfl ?_ ?_ (by simp only [maxLen]; omega) ?_ hB ?_
  · intro j u' hj
    match j, hj with
    | 0, hj =>
      simp only [List.getElem?_cons_zero, Option.some.injEq] at hj
      subst hj
      rw [add_zero]
      exact hu
    | j + 1, hj => simp at hj
  · intro u' hu'
    simp only [List.mem_singleton] at hu'
    subst hu'
    exact h1
  · have : (xs.length + 1) * bytes ≤ 68719476736 * 1024 := Nat.mul_le_mul (by omega) hby
    omega
  · intro v' w' ho' hg' _
    refine h v' w' ?_ ?_ ?_
    · show w'.ownsRow B e 1 v' (xs ++ [u]).length (xs ++ [u])
      rw [List.length_append]
      exact ho'
    · exact (Below.refl B w).grown hg' hB (fun k hk => (hown.lt k hk).1)
    · exact fun k hne hk => hg'.block k hk (fun e => hne e.symm)

/-- The same, where the one cell has just been laid: what is known of the world ahead of it is asked. -/
theorem wpList_app {P : Program} {w0 : World} {ops : Array Oper} {rest : List Oper} {o : Oper} {a : Act} {Q : Exit → Act → World → Prop} (hgd : o.guard = none) (s x : Operand) (t : TypeId)
    (ho : o.op = .call { callee := .builtin .append, args := #[s, x], argTypes := #[t, t] }) {e : TypeId} {bytes : Nat} (he : Elem P t e bytes) (hby : bytes ≤ 1024)
    (B : Nat) (u : Value) (v : Value) (xs : List Value) (hs : a.eval s = v) (hx : a.eval x = .slice (some ⟨w0.heap.size, 0, none⟩) 1 1) (hown : Own B e w0 v xs)
    (h1 : u.oneCell' = true) (hlen : xs.length < 68719476736) (hB : B ≤ w0.heap.size)
    (h : ∀ v' w', Own B e w' v' (xs ++ [u]) → Below B w0 w' → wpList P ops Q rest (a.put o.dst v') w') : wpList P ops Q (o :: rest) a (w0.alloc (.cells #[u] e)) := by
  refine wpList_app1 (w0.alloc (.cells #[u] e)) hgd s x t ho he hby B v xs hs (hown.alloc _) _ 1 u hx ?_ h1 hlen (by simp; omega) ?_
  · rw [World.cell?_alloc_new]; rfl
  · intro v' w' ho' hb' _
    exact h v' w' ho' (((Below.refl B w0).alloc hB _).trans hb')

/-! ## A slice of integers that is read: it came in, or is the call's own -/
def IntSl (w : World) (v : Value) (xs : List Int) : Prop :=
  ∃ a c, v = .slice a xs.length c ∧ xs.length ≤ c ∧ c ≤ maxLen ∧ (a = none → xs = []) ∧ (∀ x, a = some x → ∀ i n, xs[i]? = some n → w.cell? (x.add i) = some (.int .i64 n))
theorem IntSl.bel {w w' : World} {v : Value} {xs : List Int} (h : IntSl w v xs) (hb : Bel w w') : IntSl w' v xs := by
  obtain ⟨a, c, h1, h2, h3, h4, h5⟩ := h
  refine ⟨a, c, h1, h2, h3, h4, fun x hx i n hn => ?_⟩
  have := h5 x hx i n hn
  exact (hb.cell (World.block_lt_of_cell? w _ this)).trans this
theorem Own.ints {B : Nat} {e : TypeId} {w : World} {v : Value} {xs : List Int} (h : Own B e w v (xs.map (Value.int .i64))) : IntSl w v xs := by
  obtain ⟨A, c, h1, h2, h3, h4, h5⟩ := h.form
  rw [List.length_map] at h1 h2
  refine ⟨A, c, h1, h2, h3, fun ha => by simpa using h4 ha, fun x hx i n hn => ?_⟩
  obtain ⟨g, o, p⟩ := x
  obtain ⟨rfl, rfl, _, _, _, h6⟩ := h5 g o p hx
  rw [add_zero]
  exact h6 i _ (by rw [List.getElem?_map, hn]; rfl)
/-- What the row's reading of a slice of integers gives. -/
theorem IntSl.of_row {w : World} {x : Addr} {l c : Nat} {zs : List Int} (hl : l ≤ c) (hm : c ≤ maxLen) (hz : zs.length = c) (hcell : ∀ i, i < zs.length → w.cell? (x.add i) = some (.int .i64 (zs.getD i 0))) : IntSl w (.slice (some x) l c) (zs.take l) := by
  have e : (zs.take l).length = l := by rw [List.length_take]; omega
  refine ⟨some x, c, by rw [e], by omega, hm, (fun h => by cases h), fun y hy i n hn => ?_⟩
  injection hy with hy
  subst hy
  rw [List.getElem?_take] at hn
  split at hn
  · rw [hcell i (by rw [List.getElem?_eq_some_iff] at hn; exact hn.1), List.getD_eq_getElem?_getD, hn]
    rfl
  · cases hn
theorem IntSl.nil_ (w : World) : IntSl w (.slice none 0 0) [] := ⟨.none, 0, rfl, Nat.le_refl _, Nat.zero_le _, fun _ => rfl, fun _ h => by cases h⟩

/-! ## Bytes -/
theorem size_lt_of_getElem (s : ByteArray) (l : List UInt8) (h : s.data.toList = l) : s.size = l.length := by rw [Lib.size_eq, h]
theorem byte_at (s : ByteArray) (k : Nat) (h : k < s.size) : s.data.toList[k]? = some s[k] := by
  rw [Lib.size_eq] at h
  rw [List.getElem?_eq_getElem h]
  rfl
theorem str_eq (s : ByteArray) : (⟨s.data.toList.toArray⟩ : ByteArray) = s := Lib.mk_data s
theorem data_append (s t : ByteArray) : (s ++ t).data.toList = s.data.toList ++ t.data.toList := by simp
theorem append_str (s t : ByteArray) : s ++ t = ⟨(s.data.toList ++ t.data.toList).toArray⟩ := by
  rw [← data_append, Lib.mk_data]
theorem str_append (l : List UInt8) (t : ByteArray) : (⟨l.toArray⟩ : ByteArray) ++ t = ⟨(l ++ t.data.toList).toArray⟩ := by rw [append_str]
theorem size_str (l : List UInt8) : (⟨l.toArray⟩ : ByteArray).size = l.length := by rw [Lib.size_eq]
theorem ret_two {a b c d : Value} (h : a = c) (k : b = d) : Ending.returned (.tuple #[a, b]) = .returned (.tuple #[c, d]) := by rw [h, k]
theorem ret_one {a c : Value} (h : a = c) : Ending.returned a = .returned c := by rw [h]
theorem ret_bool {a b : Bool} (h : a = b) : Ending.returned (.bool a) = .returned (.bool b) := by rw [h]
theorem ret_int {a b : Int} (h : a = b) : Ending.returned (.int .i64 a) = .returned (.int .i64 b) := by rw [h]
end Go.Proofs.YthaoohckgilahaaDoor

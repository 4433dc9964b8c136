/-
  Texts of the proof, laid together: Base, Base2, Plain, RLong, Base3, RInts, LawKit, Is, Base4, Bits, PlainUtf8, Utf8, Utf8b, Base5, PlainUtf16, Utf16, Utf8c, Utf16b, PlainSingle, PlainMap. No condition of its own.
-/
import Derived.WalkKit
import Derived.Lib.Hide
import Derived.Lib.Strings
import Derived.Deep.AppendLies
import Derived.Deep.Draws
import Derived.Laws.OwnMore
import Derived.Test.YtcgdecpjlggekaaProg
import Derived.WalkLawsBesides
import Derived.WalkSpells
import Derived.Deep.QuietTactic
import Derived.BigQuiet
import Derived.Laws.IdiomStrings
import Derived.Laws.BitsAllLaws
import Derived.Laws.BitsLemmas
import Derived.Laws.Rows
import Derived.Deep.RegionHeld3
import Derived.StillTailTactics
import Derived.Maps.Views

/-
  Words for memory that all proofs of this seat share: what a call leaves below its own blocks, a slice that is owned, a slice that is read. No program in sight.
-/
namespace Go.Proofs.Ytcgdecpjlggekaa
open Go.RowKit

/-- What was there when the call began is as it was. -/
def Bel (w w' : World) : Prop := Below w.heap.size w w'

theorem Bel.refl (w : World) : Bel w w := Below.refl _ _
theorem Bel.trans {a b c : World} (h : Bel a b) (k : Bel b c) : Bel a c := Below.trans h (Below.mono k h.size)
theorem Bel.drew {a w : World} (h : Bel a w) : Bel a w.drew := Below.drew h
theorem Bel.drewN {a w : World} (h : Bel a w) (n : Nat) : Bel a (w.drewN n) := ⟨h.os, h.tape, h.output, h.size, h.block⟩
theorem Bel.alloc {a w : World} (h : Bel a w) (o : Obj) : Bel a (w.alloc o) := Below.alloc h h.size o
theorem Bel.setCell {a w : World} (h : Bel a w) {p : Addr} (hp : a.heap.size ≤ p.block) (u : Value) : Bel a (w.setCell p u) := Below.setCell h hp u
theorem Bel.size {a w : World} (h : Bel a w) : a.heap.size ≤ w.heap.size := Below.size h
theorem Bel.cell {a w : World} (h : Bel a w) {p : Addr} (hp : p.block < a.heap.size) : w.cell? p = a.cell? p := Below.cell h hp
theorem Bel.frozen {a w : World} (h : Bel a w) {p : Addr} (hp : p.block < a.heap.size) : w.frozen? p = a.frozen? p := Below.frozen h hp
theorem Bel.below {a w : World} (h : Bel a w) : Below a.heap.size a w := h
theorem Bel.of {a w : World} (h : Below a.heap.size a w) : Bel a w := h
theorem Bel.upto {B : Nat} {a b c : World} (h : Bel a b) (k : Below B b c) (hB : a.heap.size ≤ B) : Bel a c := Below.trans h (Below.mono k hB)
/-- All cells and marks that lay there read as they did: two rules for the walk. -/
theorem Bel.rules {a w : World} (h : Bel a w) : (∀ b o, b < a.heap.size → w.cell? ⟨b, o, none⟩ = a.cell? ⟨b, o, none⟩) ∧ (∀ b o, b < a.heap.size → w.frozen? ⟨b, o, none⟩ = a.frozen? ⟨b, o, none⟩) :=
  ⟨fun _ _ hb => h.cell (p := ⟨_, _, none⟩) hb, fun _ _ hb => h.frozen (p := ⟨_, _, none⟩) hb⟩
theorem Bel.lt {a w : World} (h : Bel a w) {k : Nat} (hk : k < a.heap.size) : k < w.heap.size := Nat.lt_of_lt_of_le hk h.size

theorem block_of_add (a : Addr) (n : Nat) : (a.add n).block = a.block := by unfold Addr.add; split <;> rfl
theorem add_zero (g k : Nat) : (⟨g, 0, none⟩ : Addr).add k = ⟨g, k, none⟩ := by unfold Addr.add; split <;> simp_all

/-! ## A slice that is owned: its cells lie in one block from B on -/
def Own (B : Nat) (e : TypeId) (w : World) (v : Value) (xs : List Value) : Prop := w.ownsRow B e 1 v xs.length xs

section
variable {B B' : Nat} {e : TypeId} {w w' : World} {v : Value} {xs : List Value}
theorem Own.nil (B : Nat) (e : TypeId) (w : World) : Own B e w (.slice none 0 0) [] := World.ownsRow_nil _ _ _ _
theorem Own.mono (h : Own B e w v xs) (hB : B' ≤ B) : Own B' e w v xs := by
  refine ⟨h.1, ?_⟩
  rcases h.2 with h2 | ⟨g, cap, cur, r0, r1, r2⟩
  · exact .inl h2
  · exact .inr ⟨g, cap, cur, r0, Nat.le_trans hB r1, r2⟩
theorem Own.bel (h : Own B e w v xs) (hb : Bel w w') : Own B e w' v xs := by
  refine ⟨h.1, ?_⟩
  rcases h.2 with h2 | ⟨g, cap, cur, r0, r1, r2, r3⟩
  · exact .inl h2
  · exact .inr ⟨g, cap, cur, r0, r1, (hb.block g (Array.getElem?_eq_some_iff.1 r2).1).trans r2, r3⟩
theorem Own.drew (h : Own B e w v xs) : Own B e w.drew v xs := h
theorem Own.drewN (h : Own B e w v xs) (n : Nat) : Own B e (w.drewN n) v xs := h.bel ((Bel.refl w).drewN n)
theorem Own.alloc (h : Own B e w v xs) (o : Obj) : Own B e (w.alloc o) v xs := h.bel ((Bel.refl w).alloc o)
theorem Own.upto {C : Nat} (h : Own B e w v xs) (hb : Below C w w') (hC : ∀ k, v.ownBlock = some k → k < C) : Own B e w' v xs := by
  refine ⟨h.1, ?_⟩
  rcases h.2 with h2 | ⟨g, cap, cur, r0, r1, r2, r3⟩
  · exact .inl h2
  · exact .inr ⟨g, cap, cur, r0, r1, (hb.block g (hC g (by subst r0; rfl))).trans r2, r3⟩
/-- What it looks like, for the walk. -/
theorem Own.form (h : Own B e w v xs) : ∃ A c, v = .slice A xs.length c ∧ xs.length ≤ c ∧ c ≤ maxLen ∧ (A = none → xs = []) ∧
    ∀ g o p, A = some ⟨g, o, p⟩ → o = 0 ∧ p = none ∧ B ≤ g ∧ g < w.heap.size ∧ (∀ k, w.frozen? ⟨g, k, none⟩ = false) ∧ (∀ k u, xs[k]? = some u → w.cell? ⟨g, k, none⟩ = some u) := by
  rcases h.2 with ⟨rfl, hn⟩ | ⟨g, cap, cur, rfl, r1, r2, r3, r4, r5, r6⟩
  · have hx : xs = [] := List.eq_nil_of_length_eq_zero hn
    subst hx
    exact ⟨none, 0, rfl, Nat.le_refl _, Nat.zero_le _, fun _ => rfl, fun _ _ _ hh => by cases hh⟩
  · refine ⟨some ⟨g, 0, none⟩, cap, rfl, r3, r4, (fun hh => by cases hh), fun g' o p hh => ?_⟩
    injection hh with hh
    injection hh with h1 h2 h3
    subst h1; subst h2; subst h3
    refine ⟨rfl, rfl, r1, (Array.getElem?_eq_some_iff.1 r2).1, fun k => by simp [World.frozen?, r2], fun k u hu => ?_⟩
    have := World.ownsRow.cells h (g := g) rfl k u hu
    rwa [add_zero] at this
theorem Own.lt (h : Own B e w v xs) : ∀ k, v.ownBlock = some k → B ≤ k ∧ k < w.heap.size := World.ownsRow.lt h
/-- A row of cells that has just been laid. -/
theorem Own.made (w : World) (cur : List Value) (hb : B ≤ w.heap.size) (hm : cur.length ≤ maxLen) : Own B e (w.alloc (.cells cur.toArray e)) (.slice (some ⟨w.heap.size, 0, none⟩) cur.length cur.length) cur :=
  ⟨by simp, .inr ⟨w.heap.size, cur.length, cur.toArray, rfl, hb, heap_alloc_new w _, Nat.le_refl _, hm, by simp, by simp⟩⟩
end

/-- The element type's row of the table. -/
def Elem (P : Program) (t e : TypeId) (bytes : Nat) : Prop := P.underlying t = some (.slice e) ∧ ∃ z, (P.info? e).map (fun i => (i.zero, i.size, i.bytes)) = some (some z, 1, bytes) ∧ z.cells.size = 1

/-- 'out = append(out, x)', out the call's own. -/
theorem wpList_app1 {P : Program} (w : World) {ops : Array Oper} {rest : List Oper} {o : Oper} {a : Act} {Q : Exit → Act → World → Prop} (hgd : o.guard = none) (s x : Operand) (t : TypeId)
    (ho : o.op = .call { callee := .builtin .append, args := #[s, x], argTypes := #[t, t] }) {e : TypeId} {bytes : Nat} (he : Elem P t e bytes) (hby : bytes ≤ 1024)
    (B : Nat) (v : Value) (xs : List Value) (hs : a.eval s = v) (hown : Own B e w v xs) (g c : Nat) (u : Value) (hx : a.eval x = .slice (some ⟨g, 0, none⟩) 1 c)
    (hu : w.cell? ⟨g, 0, none⟩ = some u) (h1 : u.oneCell' = true) (hlen : xs.length < 68719476736) (hB : B ≤ w.heap.size)
    (h : ∀ v' w', Own B e w' v' (xs ++ [u]) → Below B w w' → (∀ k, v.ownBlock ≠ some k → k < w.heap.size → w'.heap[k]? = w.heap[k]?) → wpList P ops Q rest (a.put o.dst v') w') : wpList P ops Q (o :: rest) a w := by
  obtain ⟨ht, z, hi, hz⟩ := he
  obtain ⟨i, hi, hz0, hz1, hz2⟩ := info_parts hi
  refine wpList_append_own w hgd s x t ho B e i z 1 bytes ht hi hz0 hz1 hz2 hz (by decide) v xs.length xs hs hown ⟨g, 0, none⟩ 1 c [u] hx rfl ?_ ?_ (by simp only [maxLen]; omega) ?_ hB ?_
  · intro j u' hj
    match j, hj with
    | 0, hj =>
      simp only [List.getElem?_cons_zero, Option.some.injEq] at hj
      subst hj
      rw [add_zero]
      exact hu
    | j + 1, hj => simp at hj
  · intro u' hu'
    simp only [List.mem_singleton] at hu'
    subst hu'
    exact h1
  · have : (xs.length + 1) * bytes ≤ 68719476736 * 1024 := Nat.mul_le_mul (by omega) hby
    omega
  · intro v' w' ho' hg' _
    refine h v' w' ?_ ?_ ?_
    · show w'.ownsRow B e 1 v' (xs ++ [u]).length (xs ++ [u])
      rw [List.length_append]
      exact ho'
    · exact (Below.refl B w).grown hg' hB (fun k hk => (hown.lt k hk).1)
    · exact fun k hne hk => hg'.block k hk (fun e => hne e.symm)

/-- The same, where the one cell has just been laid: what is known of the world ahead of it is asked. -/
theorem wpList_app {P : Program} {w0 : World} {ops : Array Oper} {rest : List Oper} {o : Oper} {a : Act} {Q : Exit → Act → World → Prop} (hgd : o.guard = none) (s x : Operand) (t : TypeId)
    (ho : o.op = .call { callee := .builtin .append, args := #[s, x], argTypes := #[t, t] }) {e : TypeId} {bytes : Nat} (he : Elem P t e bytes) (hby : bytes ≤ 1024)
    (B : Nat) (u : Value) (v : Value) (xs : List Value) (hs : a.eval s = v) (hx : a.eval x = .slice (some ⟨w0.heap.size, 0, none⟩) 1 1) (hown : Own B e w0 v xs)
    (h1 : u.oneCell' = true) (hlen : xs.length < 68719476736) (hB : B ≤ w0.heap.size)
    (h : ∀ v' w', Own B e w' v' (xs ++ [u]) → Below B w0 w' → wpList P ops Q rest (a.put o.dst v') w') : wpList P ops Q (o :: rest) a (w0.alloc (.cells #[u] e)) := by
  refine wpList_app1 (w0.alloc (.cells #[u] e)) hgd s x t ho he hby B v xs hs (hown.alloc _) _ 1 u hx ?_ h1 hlen (by simp; omega) ?_
  · rw [World.cell?_alloc_new]; rfl
  · intro v' w' ho' hb' _
    exact h v' w' ho' (((Below.refl B w0).alloc hB _).trans hb')

/-! ## A slice of integers that is read: it came in, or is the call's own -/
def IntSl (w : World) (v : Value) (xs : List Int) : Prop :=
  ∃ a c, v = .slice a xs.length c ∧ xs.length ≤ c ∧ c ≤ maxLen ∧ (a = none → xs = []) ∧ (∀ x, a = some x → ∀ i n, xs[i]? = some n → w.cell? (x.add i) = some (.int .i64 n))
theorem IntSl.bel {w w' : World} {v : Value} {xs : List Int} (h : IntSl w v xs) (hb : Bel w w') : IntSl w' v xs := by
  obtain ⟨a, c, h1, h2, h3, h4, h5⟩ := h
  refine ⟨a, c, h1, h2, h3, h4, fun x hx i n hn => ?_⟩
  have := h5 x hx i n hn
  exact (hb.cell (World.block_lt_of_cell? w _ this)).trans this
theorem Own.ints {B : Nat} {e : TypeId} {w : World} {v : Value} {xs : List Int} (h : Own B e w v (xs.map (Value.int .i64))) : IntSl w v xs := by
  obtain ⟨A, c, h1, h2, h3, h4, h5⟩ := h.form
  rw [List.length_map] at h1 h2
  refine ⟨A, c, h1, h2, h3, fun ha => by simpa using h4 ha, fun x hx i n hn => ?_⟩
  obtain ⟨g, o, p⟩ := x
  obtain ⟨rfl, rfl, _, _, _, h6⟩ := h5 g o p hx
  rw [add_zero]
  exact h6 i _ (by rw [List.getElem?_map, hn]; rfl)
/-- What the row's reading of a slice of integers gives. -/
theorem IntSl.of_row {w : World} {x : Addr} {l c : Nat} {zs : List Int} (hl : l ≤ c) (hm : c ≤ maxLen) (hz : zs.length = c) (hcell : ∀ i, i < zs.length → w.cell? (x.add i) = some (.int .i64 (zs.getD i 0))) : IntSl w (.slice (some x) l c) (zs.take l) := by
  have e : (zs.take l).length = l := by rw [List.length_take]; omega
  refine ⟨some x, c, by rw [e], by omega, hm, (fun h => by cases h), fun y hy i n hn => ?_⟩
  injection hy with hy
  subst hy
  rw [List.getElem?_take] at hn
  split at hn
  · rw [hcell i (by rw [List.getElem?_eq_some_iff] at hn; exact hn.1), List.getD_eq_getElem?_getD, hn]
    rfl
  · cases hn
theorem IntSl.nil_ (w : World) : IntSl w (.slice none 0 0) [] := ⟨.none, 0, rfl, Nat.le_refl _, Nat.zero_le _, fun _ => rfl, fun _ h => by cases h⟩

/-! ## Bytes -/
theorem size_lt_of_getElem (s : ByteArray) (l : List UInt8) (h : s.data.toList = l) : s.size = l.length := by rw [Lib.size_eq, h]
theorem byte_at (s : ByteArray) (k : Nat) (h : k < s.size) : s.data.toList[k]? = some s[k] := by
  rw [Lib.size_eq] at h
  rw [List.getElem?_eq_getElem h]
  rfl
theorem str_eq (s : ByteArray) : (⟨s.data.toList.toArray⟩ : ByteArray) = s := Lib.mk_data s
theorem data_append (s t : ByteArray) : (s ++ t).data.toList = s.data.toList ++ t.data.toList := by simp
theorem append_str (s t : ByteArray) : s ++ t = ⟨(s.data.toList ++ t.data.toList).toArray⟩ := by
  rw [← data_append, Lib.mk_data]
theorem str_append (l : List UInt8) (t : ByteArray) : (⟨l.toArray⟩ : ByteArray) ++ t = ⟨(l ++ t.data.toList).toArray⟩ := by rw [append_str]
theorem size_str (l : List UInt8) : (⟨l.toArray⟩ : ByteArray).size = l.length := by rw [Lib.size_eq]
theorem ret_two {a b c d : Value} (h : a = c) (k : b = d) : Ending.returned (.tuple #[a, b]) = .returned (.tuple #[c, d]) := by rw [h, k]
theorem ret_one {a c : Value} (h : a = c) : Ending.returned a = .returned c := by rw [h]
theorem ret_bool {a b : Bool} (h : a = b) : Ending.returned (.bool a) = .returned (.bool b) := by rw [h]
theorem ret_int {a b : Int} (h : a = b) : Ending.returned (.int .i64 a) = .returned (.int .i64 b) := by rw [h]
end Go.Proofs.Ytcgdecpjlggekaa

/-
  More words that all proofs share: the types' rows, lists that grow by one.
-/
namespace Go.Proofs.Ytcgdecpjlggekaa
open Go.RowKit

theorem elemInt : Elem Try.prog 24 3 8 := ⟨Try.underlying24, .int .i64 0, by kernel_rfl, rfl⟩
theorem elemByte : Elem Try.prog 65 5 1 := ⟨Try.underlying65, .int .u8 0, by kernel_rfl, rfl⟩
theorem take_snoc {α β : Type} (f : α → β) (xs : List α) (k : Nat) (x : α) (h : xs[k]? = some x) : (xs.take (k + 1)).map f = (xs.take k).map f ++ [f x] := by
  rw [List.take_add_one, h]; simp
theorem cell_new (w : World) (u : Value) (t : TypeId) : (w.alloc (.cells #[u] t)).cell? ⟨w.heap.size, 0, none⟩ = some u := by
  rw [World.cell?_alloc_new]; rfl
theorem Below.sized {B : Nat} {a w : World} (h : Below B a w) (hB : B ≤ a.heap.size) : B ≤ w.heap.size := Nat.le_trans hB h.size
end Go.Proofs.Ytcgdecpjlggekaa

/-
  The plain functions that the Go text computes, and the plain laws about them: lists of bytes and numbers, no program in sight.
-/
namespace Go.Proofs.Ytcgdecpjlggekaa.M
open Go

abbrev Bs := List UInt8

/-! ## marks -/
def sniff (l : Bs) : Int × Int :=
  if Lib.hasPrefix l [239, 187, 191] then (1, 3) else if Lib.hasPrefix l [254, 255] then (3, 2) else if Lib.hasPrefix l [255, 254] then (2, 2) else (0, 0)
def may (l : Bs) : Bool :=
  (decide (l.length < 3) && Lib.hasPrefix [239, 187, 191] l) || (decide (l.length < 2) && Lib.hasPrefix [254, 255] l) || (decide (l.length < 2) && Lib.hasPrefix [255, 254] l)
def markOf (n : Int) : Bs := if 1 = n then [239, 187, 191] else if 3 = n then [254, 255] else if 2 = n then [255, 254] else []
def isEnc (n : Int) : Bool := decide (1 ≤ n ∧ n ≤ 7)
def put (n : Int) (l : Bs) : Bs × Int := if isEnc n = false then ([], 6) else if 3000 < l.length then ([], 2) else (markOf n ++ l, 0)
def long (l : Bs) : Int := if 3000 < l.length then 2 else 0

/-! ## a byte a sign -/
def high : List Int := [8364, 129, 8218, 402, 8222, 8230, 8224, 8225, 710, 8240, 352, 8249, 338, 141, 381, 143, 144, 8216, 8217, 8220, 8221, 8226, 8211, 8212, 732, 8482, 353, 8250, 339, 157, 382, 376]
def pointOf (user : Bool) (c : Nat) : Int := if c < 128 then (c : Int) else if user = true then 63232 + (c : Int) else if c < 160 then high[c - 128]?.getD 0 else (c : Int)
def tableOf (user : Bool) : List Int := (List.range 256).map (pointOf user)
def idx (xs : List Int) (n : Int) : Int := match xs.findIdx? (fun x => x == n) with | some i => (i : Int) | none => -1
def byteOf (user : Bool) (n : Int) : Int := idx (tableOf user) n
def decodeS (user : Bool) (l : Bs) : List Int := l.map (fun c => pointOf user c.toNat)
def decS (user : Bool) (l : Bs) : List Int × Int := if 3000 < l.length then ([], 2) else (decodeS user l, 0)
def tellsS (user : Bool) (n : Int) : Int × Int := if byteOf user n < 0 then (0, 5) else (byteOf user n, 0)
def encodeS (user : Bool) : List Int → Option Bs
  | [] => some []
  | n :: t => if byteOf user n < 0 then none else (encodeS user t).map (UInt8.ofNat (byteOf user n).toNat :: ·)
def rawS (user : Bool) (xs : List Int) : Bs × Int := match encodeS user xs with | some b => (b, 0) | none => ([], 5)
def encS (user : Bool) (xs : List Int) : Bs × Int := if 3000 < xs.length then ([], 2) else rawS user xs
end Go.Proofs.Ytcgdecpjlggekaa.M

/-
  Small answers: is a number between two, is it an encoding, is a text too long.
-/
namespace Go.Proofs.Ytcgdecpjlggekaa
open Go.RowKit

theorem between_any (n a b : Int) (w : World) : Calls Try.prog 19 #[.int .i64 n, .int .i64 a, .int .i64 b] w fun e w' => e = .returned (.bool (decide (a ≤ n ∧ n ≤ b))) ∧ w = w' := by
  by_cases h : a ≤ n <;> by_cases h2 : n ≤ b
  all_goals
    go_enter Try.func19, Try.ntmps19
    go_wp2
    go_ret
    refine ⟨?_, rfl⟩
    simp
    omega
theorem isEncoding_any (n : Int) (w : World) : Calls Try.prog 7 #[.int .i64 n] w fun e w' => e = .returned (.bool (M.isEnc n)) ∧ w = w' := by
  have H := Lib.hid (show decide (1 ≤ n ∧ n ≤ 7) = M.isEnc n from rfl)
  go_enter Try.func7, Try.ntmps7
  go_wp2_with (go_at_call 19; refine (between_any _ _ _ _).mono ?_; rintro e w' ⟨rfl, rfl⟩)
  go_ret
  refine ⟨?_, rfl⟩
  rw [← H.out]
  exact ret_bool (by simp)
theorem tooLong_any (s : ByteArray) (w : World) : Calls Try.prog 8 #[.string s] w fun e w' => e = .returned (.int .i64 (M.long s.data.toList)) ∧ w = w' := by
  by_cases h : 3000 < s.size
  · have H := Lib.hid (show M.long s.data.toList = 2 by rw [M.long, if_pos (by rw [← Lib.size_eq]; exact h)])
    go_enter Try.func8, Try.ntmps8
    go_wp2
    go_ret
    exact ⟨by rw [H.out]; rfl, rfl⟩
  · have H := Lib.hid (show M.long s.data.toList = 0 by rw [M.long, if_neg (by rw [← Lib.size_eq]; exact h)])
    go_enter Try.func8, Try.ntmps8
    go_wp2
    go_ret
    exact ⟨by rw [H.out]; rfl, rfl⟩
end Go.Proofs.Ytcgdecpjlggekaa

/-
  Laws on conversions between strings and bytes, as steps of a walk.
-/
namespace Go.Proofs.Ytcgdecpjlggekaa
open Go.RowKit

def byteVal (c : UInt8) : Value := .int .u8 (c.toNat : Int)

theorem wpList_toBytes {P : Program} {w : World} {ops : Array Oper} {rest : List Oper} {o : Oper} {a : Act} {Q : Exit → Act → World → Prop} (hgd : o.guard = none) (x : Operand) (src dst e : TypeId)
    (ho : o.op = .convert src dst x) (hs : P.underlying src = some .string) (hd : P.underlying dst = some (.slice e)) (he : P.underlying e = some (.int .u8)) (s : ByteArray) (hx : a.eval x = .string s) (hsz : s.size ≤ 9223372036854775807)
    (h : ∀ c w', Bel w w' → w.heap.size < w'.heap.size → s.size ≤ c → c ≤ 9223372036854775807 → (∀ k b, s.data.toList[k]? = some b → w'.cell? ⟨w.heap.size, k, none⟩ = some (byteVal b)) → (∀ k, k < s.size → w'.frozen? ⟨w.heap.size, k, none⟩ = false) →
      wpList P ops Q rest (a.put o.dst (.slice (some ⟨w.heap.size, 0, none⟩) s.size c)) w') : wpList P ops Q (o :: rest) a w := by
  refine wpList_plain hgd fun K hK => ?_
  have hr := run_bytes_of_string (P := P) w src dst e s hs hd he
  unfold Oper.wp execOp
  simp only [ho, Sem.run_bind, Sem.run_pure, Result.andThen_ok, hx, hr]
  refine hK _ _ (h _ _ ?_ ?_ ?_ ?_ ?_ ?_)
  · exact (Bel.refl w).drew.alloc _
  · simp
  · exact grownCap_ge _ _ _ _
  · exact grownCap_le_maxLen _ _ _ _ (by simp only [maxLen]; omega)
  · intro k b hb
    have hk : k < s.data.size := by
      have := (List.getElem?_eq_some_iff.1 hb).1
      simpa using this
    have := World.cell?_alloc_mark w.drew (bytesRow s (grownCap w s.size 0 e)) e ((bytesRow s (grownCap w s.size 0 e)).size, (bytesRow s (grownCap w s.size 0 e)).size + 1) k
    rw [show w.drew.heap.size = w.heap.size from rfl] at this
    rw [this, bytesRow_at s _ k hk]
    have e2 : s.data.toList[k]? = some s.data[k] := by rw [Array.getElem?_toList]; exact Array.getElem?_eq_getElem hk
    rw [e2] at hb
    injection hb with hb
    rw [hb]; rfl
  · intro k hk
    have := World.frozen?_alloc_mark w.drew (bytesRow s (grownCap w s.size 0 e)) e (bytesRow s (grownCap w s.size 0 e)).size ((bytesRow s (grownCap w s.size 0 e)).size + 1) k
    rw [show w.drew.heap.size = w.heap.size from rfl] at this
    rw [this]
    have hsz : k < (bytesRow s (grownCap w s.size 0 e)).size := by
      have : s.data.size = s.size := rfl
      simp [bytesRow]; omega
    simp; omega

/-- 'string(b)' where b owns the bytes l. -/
theorem wpList_toString {P : Program} {w : World} {ops : Array Oper} {rest : List Oper} {o : Oper} {a : Act} {Q : Exit → Act → World → Prop} (hgd : o.guard = none) (x : Operand) (src dst e : TypeId)
    (ho : o.op = .convert src dst x) (hs : P.underlying src = some (.slice e)) (he : P.underlying e = some (.int .u8)) (hd : P.underlying dst = some .string) (B : Nat) (v : Value) (l : List UInt8) (hx : a.eval x = v) (hown : Own B e w v (l.map byteVal))
    (h : wpList P ops Q rest (a.put o.dst (.string ⟨l.toArray⟩)) w) : wpList P ops Q (o :: rest) a w := by
  refine wpList_plain hgd fun K hK => ?_
  have hr : (convert src dst v).run P w = .ok (.string ⟨l.toArray⟩) w := by
    obtain ⟨A, c, hv, h1, h2, h3, h4⟩ := hown.form
    rw [List.length_map] at hv
    subst hv
    cases A with
    | none =>
      have : l = [] := by simpa using h3 rfl
      subst this
      rw [run_convert_bytes_string w src dst e none _ c hs he hd]
      rfl
    | some y =>
      obtain ⟨g, o, p⟩ := y
      obtain ⟨rfl, rfl, _, _, _, h6⟩ := h4 g o p rfl
      exact run_convert_bytes_back w src dst e ⟨g, 0, none⟩ c l hs he hd (fun j hj => by
        rw [add_zero]
        exact h6 j _ (by rw [List.getElem?_map, List.getElem?_eq_getElem hj]; rfl))
  unfold Oper.wp execOp
  simp only [ho, Sem.run_bind, Sem.run_pure, Result.andThen_ok, hx, hr]
  exact hK _ _ h
/-- A literal list of numbers that has just been laid. -/
theorem IntSl.lit (w : World) (t : TypeId) (ys : List Int) (h : ys.length ≤ 1000000) : IntSl (w.alloc (.cells (ys.map (Value.int .i64)).toArray t)) (.slice (some ⟨w.heap.size, 0, none⟩) ys.length ys.length) ys := by
  refine ⟨some ⟨w.heap.size, 0, none⟩, ys.length, rfl, Nat.le_refl _, by unfold maxLen; omega, (fun h => by cases h), fun x hx i n hn => ?_⟩
  injection hx with hx
  subst hx
  rw [add_zero, World.cell?_alloc_new, List.getElem?_toArray, List.getElem?_map, hn]
  rfl
theorem drop_str (s : ByteArray) (k : Nat) : (s.extract k s.size).data.toList = s.data.toList.drop k := by
  rw [Lib.extract_data, List.take_of_length_le (by rw [List.length_drop, ← Lib.size_eq]; exact Nat.le_refl _)]
theorem drop_size (s : ByteArray) (k : Nat) : (s.extract k s.size).size = s.size - k := by
  rw [Lib.size_eq, drop_str, List.length_drop, ← Lib.size_eq]
theorem cons_of_pos (s : ByteArray) (h : 0 < s.size) : ∃ c t, s.data.toList = c :: t := by
  cases hl : s.data.toList with
  | nil => rw [Lib.size_eq, hl] at h; simp at h
  | cons c t => exact ⟨c, t, rfl⟩
def strLen : Value → Nat | .string s => s.size | _ => 0
theorem own_row {e : TypeId} (w : World) (l : List UInt8) (vs : List Value) (h : l.map byteVal = vs) (h2 : l.length ≤ 4) : Own w.heap.size e (w.alloc (.cells vs.toArray e)) (.slice (some ⟨w.heap.size, 0, none⟩) vs.length vs.length) (l.map byteVal) := by
  subst h
  exact Own.made w _ (Nat.le_refl _) (by rw [List.length_map]; unfold maxLen; omega)
end Go.Proofs.Ytcgdecpjlggekaa

/-
  Are two lists of numbers the same? What the references' SameInts and the laws' intsAre answer.
-/
namespace Go.Proofs.Ytcgdecpjlggekaa
open Go.RowKit

set_option maxRecDepth 100000 in
theorem sameInts_any (v1 v2 : Value) (xs ys : List Int) (w : World) (h1 : IntSl w v1 xs) (h2 : IntSl w v2 ys) : Calls Try.prog 26 #[v1, v2] w fun e w' => e = .returned (.bool (xs == ys)) ∧ Bel w w' := by
  obtain ⟨a, ca, rfl, hc1, hc2, hn, hx⟩ := h1
  obtain ⟨b, cb, rfl, hc3, hc4, hn2, hy⟩ := h2
  unfold maxLen at hc2 hc4
  by_cases hl : xs.length = ys.length
  · have hl1 : xs.length ≤ ys.length := by omega
    have hl2 : ys.length ≤ xs.length := by omega
    have hlb : ((xs.length : Int) != (ys.length : Int)) = false := by rw [bne_eq_false_iff_eq]; omega
    have HL := Lib.hid hl
    clear hl
    go_enter Try.func26, Try.ntmps26
    go_wp2_with fail
    go_loopw [5] (fun i wr => ∃ k : Nat, k ≤ xs.length ∧ i = .int .i64 k ∧ Hid (∀ j, j < k → xs[j]? = ys[j]?) ∧ ∃ q, wr = w.drewN q) (fun i _ => xs.length - (intOf i).toNat)
    case atStart => exact ⟨0, by omega, rfl, Lib.hid (fun j hj => by omega), 0, rfl⟩
    case round =>
      obtain ⟨k, hk, rfl, HE, q, rfl⟩ := hrel
      by_cases hlt : k < xs.length
      · obtain ⟨m, hm⟩ : ∃ m, xs[k]? = some m := ⟨_, List.getElem?_eq_getElem hlt⟩
        obtain ⟨n, hn1⟩ : ∃ n, ys[k]? = some n := ⟨_, List.getElem?_eq_getElem (by omega)⟩
        cases a with
        | none => rw [hn rfl] at hlt; simp at hlt
        | some x =>
          cases b with
          | none => exfalso; have hl3 := hl1; rw [hn2 rfl, List.length_nil] at hl3; omega
          | some y =>
            have hcx := hx x rfl k m hm
            have hcy := hy y rfl k n hn1
            have i1 : (k : Int) < (xs.length : Int) := by omega
            have i2 : (k : Int) < (ys.length : Int) := by omega
            have i0 : (0 : Int) ≤ (k : Int) := by omega
            by_cases he : m = n
            · subst he
              have HF := Lib.hid (show ∀ j, j < k + 1 → xs[j]? = ys[j]? from fun j hj => by
                by_cases hjk : j < k
                · exact HE.out j hjk
                · obtain rfl : j = k := by omega
                  rw [hm, hn1])
              clear hx hy hn hn2 hm hn1
              go_wp2_with fail
              go_quiet (fail)
              go_wp2_with fail
              go_roundw
              case rel => exact ⟨k + 1, by omega, by go_num, HF, _, rfl⟩
              case measure => simp [intOf]; omega
            · have hne : (m != n) = true := by simpa using he
              have HF := Lib.hid (show (xs == ys) = false by
                rw [beq_eq_false_iff_ne]; rintro rfl
                rw [hm] at hn1; injection hn1 with hn1; exact he hn1)
              clear hx hy hn hn2 hm hn1 he
              go_wp2_with fail
              go_quiet (fail)
              go_wp2_with fail
              go_ret
              rw [HF.out]
              exact ⟨rfl, (by repeat (first | exact Bel.refl _ | refine Bel.drewN ?_ _ | refine Bel.drew ?_ | refine Bel.alloc ?_ _ | refine Bel.trans ?_ (by assumption) | refine Bel.setCell ?_ (by simp; omega) _))⟩
      · obtain rfl : k = xs.length := by omega
        have HF := Lib.hid (show (xs == ys) = true by
          rw [beq_iff_eq]
          refine List.ext_getElem? fun j => ?_
          by_cases hj : j < xs.length
          · exact HE.out j hj
          · rw [List.getElem?_eq_none (by omega), List.getElem?_eq_none (by omega)])
        go_wp2_with fail
        go_ret
        rw [HF.out]
        exact ⟨rfl, (by repeat (first | exact Bel.refl _ | refine Bel.drewN ?_ _ | refine Bel.drew ?_ | refine Bel.alloc ?_ _ | refine Bel.trans ?_ (by assumption) | refine Bel.setCell ?_ (by simp; omega) _))⟩
  · have hlb : ((xs.length : Int) != (ys.length : Int)) = true := by rw [bne_iff_ne]; omega
    have HF := Lib.hid (show (xs == ys) = false by rw [beq_eq_false_iff_ne]; rintro rfl; exact hl rfl)
    clear hl
    go_enter Try.func26, Try.ntmps26
    go_wp2_with fail
    go_ret
    rw [HF.out]
    exact ⟨rfl, Bel.refl _⟩
theorem sameInts_yes (v1 v2 : Value) (xs ys : List Int) (w : World) (h1 : IntSl w v1 xs) (h2 : IntSl w v2 ys) (h : xs = ys) : Calls Try.prog 26 #[v1, v2] w fun e w' => e = .returned (.bool true) ∧ Bel w w' := by
  have := sameInts_any v1 v2 xs ys w h1 h2
  rw [h] at this
  simpa using this
/-- What the laws ask: the errno is the one that is told, and the list is what it must be (none, if it is an error). -/
theorem intsAre_yes (v1 v2 : Value) (xs ys : List Int) (n : Int) (w : World) (h1 : IntSl w v1 xs) (h2 : IntSl w v2 ys) (h : xs = if n = 0 then ys else []) : Calls Try.prog 14 #[v1, .int .i64 n, .int .i64 n, v2] w fun e w' => e = .returned (.bool true) ∧ Bel w w' := by
  by_cases hn : n = 0
  · subst hn
    rw [if_pos rfl] at h
    have c1 := sameInts_yes v1 v2 xs ys w h1 h2 h
    obtain ⟨a, ca, rfl, _⟩ := h1
    obtain ⟨b, cb, rfl, _⟩ := h2
    have C1 := Lib.hid c1
    clear c1 h
    go_enter Try.func14, Try.ntmps14
    go_wp2_with (go_at_call 26; refine (C1.out).mono ?_; rintro e w' ⟨rfl, hb⟩)
    go_ret
    exact ⟨rfl, by assumption⟩
  · rw [if_neg hn] at h
    have hne : (n != 0) = true := by simpa using hn
    have c1 := sameInts_yes v1 (.slice .none 0 0) xs [] w h1 (IntSl.nil_ w) h
    obtain ⟨a, ca, rfl, _⟩ := h1
    obtain ⟨b, cb, rfl, _⟩ := h2
    have C1 := Lib.hid c1
    clear c1 h hn
    go_enter Try.func14, Try.ntmps14
    go_wp2_with (go_at_call 26; refine (C1.out).mono ?_; rintro e w' ⟨rfl, hb⟩)
    go_ret
    exact ⟨rfl, by assumption⟩
end Go.Proofs.Ytcgdecpjlggekaa

/-
  Small answers that several laws ask.
-/
namespace Go.Proofs.Ytcgdecpjlggekaa
open Go.RowKit
set_option maxRecDepth 1000000

theorem long_to (s : ByteArray) (n : Int) (h : M.long s.data.toList = n) (w : World) : Calls Try.prog 8 #[.string s] w fun e w' => e = .returned (.int .i64 n) ∧ w = w' := by
  have := tooLong_any s w; rw [h] at this; exact this
theorem long_cases (s : ByteArray) : (3000 < s.size ∧ M.long s.data.toList = 2) ∨ (s.size ≤ 3000 ∧ M.long s.data.toList = 0) := by
  by_cases h : 3000 < s.size
  · exact .inl ⟨h, by rw [M.long, if_pos (by rw [← Lib.size_eq]; exact h)]⟩
  · exact .inr ⟨by omega, by rw [M.long, if_neg (by rw [← Lib.size_eq]; exact h)]⟩
end Go.Proofs.Ytcgdecpjlggekaa

/-
  Package label: Is.
-/
namespace Go.Proofs.Ytcgdecpjlggekaa
open Go.RowKit

theorem isEnc_any (n : Int) (w : World) : Calls Try.prog 17 #[.int .i64 n] w fun e w' => e = .returned (.bool (M.isEnc n)) ∧ w = w' := by
  by_cases h : 1 ≤ n <;> by_cases h2 : n ≤ 7
  all_goals
    go_enter Try.func17, Try.ntmps17
    go_wp2
    go_ret
    refine ⟨?_, rfl⟩
    simp [M.isEnc]
    omega
end Go.Proofs.Ytcgdecpjlggekaa

/-
  Append of a whole list of numbers, as a step of a walk (guarded or not).
-/
namespace Go.Proofs.Ytcgdecpjlggekaa
open Go.RowKit

theorem wpList_wanted {P : Program} {w : World} {ops : Array Oper} {rest : List Oper} {o : Oper} {a : Act} {Q : Exit → Act → World → Prop} (hw : Region.wanted o (yielded ops a.tmps) = true)
    (h : ∀ K : Act → World → Prop, (∀ a w, wpList P ops Q rest a w → K a w) → o.wp P a w K Q) : wpList P ops Q (o :: rest) a w :=
  wpList_step fun K hK => by rw [if_pos hw]; exact h K hK

theorem run_append_nil_src {P : Program} {w : World} {B : Nat} {t e : TypeId} {bytes : Nat} (ty : TypeId) (he : Elem P t e bytes) {v : Value} {xs : List Value} (hown : Own B e w v xs) (c : Nat) :
    (Builtin.append_ #[t, t] ty #[v, .slice none 0 c]).run P w = .ok v w := by
  obtain ⟨ht, z, hi, hz⟩ := he
  obtain ⟨i, hi, hz0, hz1, hz2⟩ := info_parts hi
  rcases hown.2 with ⟨rfl, h0⟩ | ⟨g, cap, cur, rfl, _, _, hnc, _⟩
  · simp [Builtin.append_, run_underlying ht, sizeOf, typeInfo, hi, Builtin.lenOf, Builtin.firstCells]
  · simp [Builtin.append_, run_underlying ht, sizeOf, typeInfo, hi, Builtin.lenOf, Builtin.firstCells, hnc, storeCells]

theorem wpList_appInts {P : Program} {w : World} {ops : Array Oper} {rest : List Oper} {o : Oper} {a : Act} {Q : Exit → Act → World → Prop} (s x : Operand) (t : TypeId)
    (ho : o.op = .call { callee := .builtin .append, args := #[s, x], argTypes := #[t, t] }) {e : TypeId} {bytes : Nat} (he : Elem P t e bytes) (hby : bytes ≤ 1024)
    (B : Nat) (v : Value) (xs : List Value) (hown : Own B e w v xs) (y : Value) (ys : List Int) (hy : IntSl w y ys) (hlen : xs.length + ys.length < 68719476736) (hB : B ≤ w.heap.size)
    (hs : a.eval s = v) (hx : a.eval x = y) (hw : Region.wanted o (yielded ops a.tmps) = true)
    (h : ∀ v' w', Own B e w' v' (xs ++ ys.map (Value.int .i64)) → Below B w w' → wpList P ops Q rest (a.put o.dst v') w') : wpList P ops Q (o :: rest) a w := by
  refine wpList_wanted hw fun K hK => ?_
  obtain ⟨A, c, rfl, h1, h2, h3, h4⟩ := hy
  cases A with
  | none =>
    have hn := h3 rfl
    subst hn
    have hr := run_append_nil_src o.type he hown c
    unfold Oper.wp execOp
    simp only [ho, resolve, invoke, builtin, Sem.run_bind, Sem.run_pure, Result.andThen_ok, List.map_toArray, List.map_cons, List.map_nil, hs, hx, List.length_nil, hr]
    exact hK _ _ (h _ _ (by simpa using hown) (Below.refl _ _))
  | some ad =>
    obtain ⟨ht, z, hi, hz⟩ := he
    obtain ⟨i, hi, hz0, hz1, hz2⟩ := info_parts hi
    refine wp_append_own w s x t ho B e i z 1 bytes ht hi hz0 hz1 hz2 hz (by decide) v xs.length xs hs hown ad ys.length c (ys.map (Value.int .i64)) hx (by simp) ?_ ?_ (by simp only [maxLen]; omega) ?_ hB ?_
    · intro j u hj
      rw [List.getElem?_map] at hj
      cases hq : ys[j]? with
      | none => rw [hq] at hj; cases hj
      | some n =>
        rw [hq] at hj
        injection hj with hj
        rw [← hj]
        exact h4 ad rfl j n hq
    · intro u hu
      rw [List.mem_map] at hu
      obtain ⟨n, _, rfl⟩ := hu
      rfl
    · have : (xs.length + ys.length) * bytes ≤ 68719476736 * 1024 := Nat.mul_le_mul (by omega) hby
      omega
    · intro v' w' ho' hg' _
      refine hK _ _ (h v' w' ?_ ?_)
      · show w'.ownsRow B e 1 v' (xs ++ ys.map (Value.int .i64)).length (xs ++ ys.map (Value.int .i64))
        rw [List.length_append, List.length_map]
        exact ho'
      · exact (Below.refl B w).grown hg' hB (fun k hk => (hown.lt k hk).1)
/-- '[]int{}'. -/
theorem Own.empty {B : Nat} (w : World) (e : TypeId) (hB : B ≤ w.heap.size) : Own B e (w.alloc (.cells #[] e)) (.slice (some ⟨w.heap.size, 0, none⟩) 0 0) [] :=
  Own.made w [] hB (Nat.zero_le _)
/-- 'out = append(out, x, y, ..)': the cells have just been laid. -/
theorem wpList_apps {P : Program} {w0 : World} {ops : Array Oper} {rest : List Oper} {o : Oper} {a : Act} {Q : Exit → Act → World → Prop} (s x : Operand) (t : TypeId)
    (ho : o.op = .call { callee := .builtin .append, args := #[s, x], argTypes := #[t, t] }) {e : TypeId} {bytes : Nat} (he : Elem P t e bytes) (hby : bytes ≤ 1024)
    (B : Nat) (v : Value) (xs us : List Value) (hown : Own B e w0 v xs) (h1 : ∀ u ∈ us, u.oneCell' = true) (hlen : xs.length + us.length < 68719476736) (hB : B ≤ w0.heap.size)
    (hs : a.eval s = v) (hx : a.eval x = .slice (some ⟨w0.heap.size, 0, none⟩) us.length us.length) (hw : Region.wanted o (yielded ops a.tmps) = true)
    (h : ∀ v' w', Own B e w' v' (xs ++ us) → Below B w0 w' → wpList P ops Q rest (a.put o.dst v') w') : wpList P ops Q (o :: rest) a (w0.alloc (.cells us.toArray e)) := by
  refine wpList_wanted hw fun K hK => ?_
  obtain ⟨ht, z, hi, hz⟩ := he
  obtain ⟨i, hi, hz0, hz1, hz2⟩ := info_parts hi
  refine wp_append_own _ s x t ho B e i z 1 bytes ht hi hz0 hz1 hz2 hz (by decide) v xs.length xs hs (hown.alloc _) ⟨w0.heap.size, 0, none⟩ us.length us.length us hx (by simp) ?_ h1 (by simp only [maxLen]; omega) ?_ (by simp; omega) ?_
  · intro j u hj
    rw [add_zero, World.cell?_alloc_new, List.getElem?_toArray]
    exact hj
  · have : (xs.length + us.length) * bytes ≤ 68719476736 * 1024 := Nat.mul_le_mul (by omega) hby
    omega
  · intro v' w' ho' hg' _
    refine hK _ _ (h v' w' ?_ ?_)
    · show w'.ownsRow B e 1 v' (xs ++ us).length (xs ++ us)
      rw [List.length_append]
      exact ho'
    · exact ((Below.refl B w0).alloc hB _).trans ((Below.refl B _).grown hg' (by simp; omega) (fun k hk => (hown.lt k hk).1))
end Go.Proofs.Ytcgdecpjlggekaa

/-
  Bits: 'or' of numbers whose bits lie apart is their sum.
-/
namespace Go.Proofs.Ytcgdecpjlggekaa
open Go.RowKit

theorem ofInt_i64 (a : Nat) (ha : a < 9223372036854775808) : (BitVec.ofInt 64 (a : Int)).toNat = a := by
  rw [BitVec.ofInt_natCast, BitVec.toNat_ofNat]; exact Nat.mod_eq_of_lt (by omega)
theorem i64_or_nat (a b : Nat) (ha : a < 9223372036854775808) (hb : b < 9223372036854775808) : bits .or .i64 (a : Int) (b : Int) = ((a ||| b : Nat) : Int) := by
  have hx : a ||| b < 2 ^ 63 := Nat.or_lt_two_pow (by omega) (by omega)
  show IntKind.i64.wrap ((BitVec.ofInt 64 (a : Int) ||| BitVec.ofInt 64 (b : Int)).toNat : Int) = _
  rw [BitVec.toNat_or, ofInt_i64 a ha, ofInt_i64 b hb, IntKind.wrap_i64]
  omega
theorem i64_and_nat (a b : Nat) (ha : a < 9223372036854775808) (hb : b < 9223372036854775808) : bits .and .i64 (a : Int) (b : Int) = ((a &&& b : Nat) : Int) := by
  have hx : a &&& b < 2 ^ 63 := Nat.and_lt_two_pow _ (by omega)
  show IntKind.i64.wrap ((BitVec.ofInt 64 (a : Int) &&& BitVec.ofInt 64 (b : Int)).toNat : Int) = _
  rw [BitVec.toNat_and, ofInt_i64 a ha, ofInt_i64 b hb, IntKind.wrap_i64]
  omega
theorem and_63 (x : Int) (h0 : 0 ≤ x) (h1 : x ≤ 4611686018427387904) : bits .and .i64 x 63 = x % 64 := by
  obtain ⟨m, rfl⟩ := Int.eq_ofNat_of_zero_le h0
  have := i64_and_nat m 63 (by omega) (by omega)
  rw [show (63 : Nat) = 2 ^ 6 - 1 from rfl, Nat.and_two_pow_sub_one_eq_mod] at this
  rw [show ((63 : Int)) = ((2 ^ 6 - 1 : Nat) : Int) from rfl, this]
  omega
theorem and_1023 (x : Int) (h0 : 0 ≤ x) (h1 : x ≤ 4611686018427387904) : bits .and .i64 x 1023 = x % 1024 := by
  obtain ⟨m, rfl⟩ := Int.eq_ofNat_of_zero_le h0
  have := i64_and_nat m 1023 (by omega) (by omega)
  rw [show (1023 : Nat) = 2 ^ 10 - 1 from rfl, Nat.and_two_pow_sub_one_eq_mod] at this
  rw [show ((1023 : Int)) = ((2 ^ 10 - 1 : Nat) : Int) from rfl, this]
  omega
/-- Bits that lie apart. -/
theorem or_apart (i a : Nat) (x : Int) (h0 : 0 ≤ x) (h1 : x < 2 ^ i) (hb : 2 ^ i * a + 2 ^ i ≤ 9223372036854775807) : bits .or .i64 ((2 ^ i * a : Nat) : Int) x = ((2 ^ i * a : Nat) : Int) + x := by
  obtain ⟨b, rfl⟩ := Int.eq_ofNat_of_zero_le h0
  have hb2 : b < 2 ^ i := by exact_mod_cast h1
  rw [i64_or_nat _ _ (by omega) (by omega), ← Nat.two_pow_add_eq_or_of_lt hb2 a]
  simp
theorem or_64 (n x : Int) (hn : 0 ≤ n) (hn2 : n ≤ 33554431) (h0 : 0 ≤ x) (h1 : x < 64) : bits .or .i64 (n * 64) x = n * 64 + x := by
  obtain ⟨m, rfl⟩ := Int.eq_ofNat_of_zero_le hn
  have := or_apart 6 m x h0 (by simpa using h1) (by omega)
  rw [show (((2 ^ 6 * m : Nat)) : Int) = (m : Int) * 64 by omega] at this
  exact this
theorem or_128 (x : Int) (h0 : 0 ≤ x) (h1 : x < 64) : bits .or .i64 128 x = 128 + x := by
  have := or_apart 6 2 x h0 (by simpa using h1) (by omega)
  exact this
theorem or_192 (x : Int) (h0 : 0 ≤ x) (h1 : x < 64) : bits .or .i64 192 x = 192 + x := by
  have := or_apart 6 3 x h0 (by simpa using h1) (by omega)
  exact this
theorem or_224 (x : Int) (h0 : 0 ≤ x) (h1 : x < 32) : bits .or .i64 224 x = 224 + x := by
  have := or_apart 5 7 x h0 (by simpa using h1) (by omega)
  exact this
theorem or_240 (x : Int) (h0 : 0 ≤ x) (h1 : x < 16) : bits .or .i64 240 x = 240 + x := by
  have := or_apart 4 15 x h0 (by simpa using h1) (by omega)
  exact this
theorem or_256 (n x : Int) (hn : 0 ≤ n) (hn2 : n ≤ 33554431) (h0 : 0 ≤ x) (h1 : x < 256) : bits .or .i64 (n * 256) x = n * 256 + x := by
  obtain ⟨m, rfl⟩ := Int.eq_ofNat_of_zero_le hn
  have := or_apart 8 m x h0 (by simpa using h1) (by omega)
  rw [show (((2 ^ 8 * m : Nat)) : Int) = (m : Int) * 256 by omega] at this
  exact this
end Go.Proofs.Ytcgdecpjlggekaa

/-
  UTF-8, in plain functions.
-/
namespace Go.Proofs.Ytcgdecpjlggekaa.M
open Go

def scalar (n : Int) : Bool := decide (0 ≤ n ∧ n ≤ 1114111 ∧ (n < 55296 ∨ 57343 < n))
def points (l : List Int) : Int := if 3000 < l.length then 2 else if l.all scalar then 0 else 3
def lead8 (c : Nat) : Int × Int × Int × Int :=
  if c < 128 then (0, (c : Int), 0, 0) else if c < 194 ∨ 244 < c then (-1, 0, 0, 0) else if c < 224 then (1, (c : Int) % 32, 128, 191) else if c = 224 then (2, 0, 160, 191)
  else if c = 237 then (2, 13, 128, 159) else if c < 240 then (2, (c : Int) % 16, 128, 191) else if c = 240 then (3, 0, 144, 191) else if c = 244 then (3, 4, 128, 143) else (3, (c : Int) % 8, 128, 191)
/-- So many bytes are still wanted: what they tell. -/
def go8 : Nat → Bs → Int → Int → Int → Int → Int × Int × Bool
  | 0, _, i, n, _, _ => (n, i, true)
  | _ + 1, [], i, _, _, _ => (65533, i, false)
  | m + 1, b :: t, i, n, lo, hi => if (b.toNat : Int) < lo ∨ hi < (b.toNat : Int) then (65533, i, true) else go8 m t (i + 1) (n * 64 + (b.toNat : Int) % 64) 128 191
def first8 : Bs → Int × Int × Bool
  | [] => (65533, 1, true)
  | c :: t => if (lead8 c.toNat).1 < 0 then (65533, 1, true) else go8 (lead8 c.toNat).1.toNat t 1 (lead8 c.toNat).2.1 (lead8 c.toNat).2.2.1 (lead8 c.toNat).2.2.2
/-- Scalars that are told, with so many rounds at most; what is left. -/
def toldF : Nat → Bs → List Int × Bs
  | 0, s => ([], s)
  | _ + 1, [] => ([], [])
  | f + 1, c :: t => if (first8 (c :: t)).2.2 = true then ((first8 (c :: t)).1 :: (toldF f ((c :: t).drop (first8 (c :: t)).2.1.toNat)).1, (toldF f ((c :: t).drop (first8 (c :: t)).2.1.toNat)).2) else ([], c :: t)
def told8 (s : Bs) : List Int × Bs := toldF s.length s
def all8 (s : Bs) : List Int := if (told8 s).2 = [] then (told8 s).1 else (told8 s).1 ++ [65533]
def dec8 (s : Bs) : List Int × Int := if 3000 < s.length then ([], 2) else (all8 s, 0)
def row8 (n : Int) : Bs :=
  if n < 128 then [UInt8.ofNat n.toNat] else if n < 2048 then [UInt8.ofNat (192 + n.toNat / 64), UInt8.ofNat (128 + n.toNat % 64)]
  else if n < 65536 then [UInt8.ofNat (224 + n.toNat / 4096), UInt8.ofNat (128 + n.toNat / 64 % 64), UInt8.ofNat (128 + n.toNat % 64)]
  else [UInt8.ofNat (240 + n.toNat / 262144), UInt8.ofNat (128 + n.toNat / 4096 % 64), UInt8.ofNat (128 + n.toNat / 64 % 64), UInt8.ofNat (128 + n.toNat % 64)]
def bytes8 (l : List Int) : Bs := l.flatMap row8
def enc8 (l : List Int) : Bs × Int := if points l = 0 then (bytes8 l, 0) else ([], points l)
def split8 (s : Bs) : Int × Int := if 3000 < s.length then (0, 2) else (((told8 s).2.length : Int), 0)
theorem lead8_bounds (c : Nat) : (lead8 c).1 = -1 ∨ (0 ≤ (lead8 c).1 ∧ (lead8 c).1 ≤ 3 ∧ 0 ≤ (lead8 c).2.1 ∧ (lead8 c).2.1 ≤ 127 ∧ 0 ≤ (lead8 c).2.2.1 ∧ (lead8 c).2.2.1 ≤ 255 ∧ 0 ≤ (lead8 c).2.2.2 ∧ (lead8 c).2.2.2 ≤ 255) := by
  unfold lead8
  split
  · right; dsimp only; omega
  · split
    · left; rfl
    · right
      split
      · dsimp only; omega
      · split
        · dsimp only; omega
        · split
          · dsimp only; omega
          · split
            · dsimp only; omega
            · split
              · dsimp only; omega
              · split <;> dsimp only <;> omega
theorem go8_bounds : ∀ (m : Nat) (l : Bs) (i n lo hi : Int), i ≤ (go8 m l i n lo hi).2.1 ∧ (go8 m l i n lo hi).2.1 ≤ i + l.length
  | 0, _, i, _, _, _ => by simp only [go8]; omega
  | _ + 1, [], i, _, _, _ => by simp [go8]
  | m + 1, b :: t, i, n, lo, hi => by
    rw [go8]
    split
    · simp only [List.length_cons]; omega
    · have := go8_bounds m t (i + 1) (n * 64 + (b.toNat : Int) % 64) 128 191
      simp only [List.length_cons]; omega
theorem first8_bounds (c : UInt8) (t : Bs) : 1 ≤ (first8 (c :: t)).2.1 ∧ (first8 (c :: t)).2.1 ≤ ((c :: t).length : Int) := by
  rw [first8]
  split
  · simp only [List.length_cons]; omega
  · have := go8_bounds (lead8 c.toNat).1.toNat t 1 (lead8 c.toNat).2.1 (lead8 c.toNat).2.2.1 (lead8 c.toNat).2.2.2
    simp only [List.length_cons]; omega
theorem toldF_enough : ∀ (f : Nat) (s : Bs) (g : Nat), s.length ≤ f → s.length ≤ g → toldF f s = toldF g s
  | 0, s, g, hf, _ => by
    have : s = [] := List.eq_nil_of_length_eq_zero (by omega)
    subst this
    cases g <;> rfl
  | f + 1, [], g, _, _ => by cases g <;> rfl
  | f + 1, c :: t, g, hf, hg => by
    cases g with
    | zero => simp at hg
    | succ g =>
      rw [toldF, toldF]
      obtain ⟨h1, h2⟩ := first8_bounds c t
      have hl : ((c :: t).drop (first8 (c :: t)).2.1.toNat).length ≤ t.length := by
        rw [List.length_drop]
        simp only [List.length_cons] at *
        omega
      simp only [List.length_cons] at hf hg
      rw [toldF_enough f _ g (by omega) (by omega)]
theorem toldF_len : ∀ (f : Nat) (s : Bs), (toldF f s).1.length + (toldF f s).2.length ≤ s.length
  | 0, s => by simp [toldF]
  | f + 1, [] => by simp [toldF]
  | f + 1, c :: t => by
    rw [toldF]
    split
    · obtain ⟨h1, h2⟩ := first8_bounds c t
      have h3 := toldF_len f ((c :: t).drop (first8 (c :: t)).2.1.toNat)
      rw [List.length_drop] at h3
      simp only [List.length_cons] at *
      omega
    · simp
theorem told8_len (s : Bs) : (told8 s).1.length + (told8 s).2.length ≤ s.length := toldF_len _ _
theorem told8_nil : told8 [] = ([], []) := rfl
theorem told8_ok (c : UInt8) (t : Bs) (h : (first8 (c :: t)).2.2 = true) : told8 (c :: t) = ((first8 (c :: t)).1 :: (told8 ((c :: t).drop (first8 (c :: t)).2.1.toNat)).1, (told8 ((c :: t).drop (first8 (c :: t)).2.1.toNat)).2) := by
  obtain ⟨h1, h2⟩ := first8_bounds c t
  have hl : ((c :: t).drop (first8 (c :: t)).2.1.toNat).length ≤ t.length := by
    rw [List.length_drop]
    simp only [List.length_cons] at *
    omega
  have e : told8 ((c :: t).drop (first8 (c :: t)).2.1.toNat) = toldF t.length ((c :: t).drop (first8 (c :: t)).2.1.toNat) := toldF_enough _ _ _ (Nat.le_refl _) hl
  rw [e]
  show toldF (t.length + 1) (c :: t) = _
  rw [toldF, if_pos h]
theorem told8_no (c : UInt8) (t : Bs) (h : (first8 (c :: t)).2.2 = false) : told8 (c :: t) = ([], c :: t) := by
  show toldF (t.length + 1) (c :: t) = _
  rw [toldF, if_neg (by rw [h]; decide)]
end Go.Proofs.Ytcgdecpjlggekaa.M

/-
  Package utf8: what lead, first, Told, All, Decode compute.
-/
namespace Go.Proofs.Ytcgdecpjlggekaa
open Go.RowKit
set_option maxRecDepth 100000

theorem results_tmp4 {fn : Func} {t u v x : Tmp} (h : fn.results = #[.tmp t, .tmp u, .tmp v, .tmp x]) (tmps : Array Value) (P : Program) (w : World) :
    (results fn tmps).run P w = .ok (.tuple #[tmps.getD t undef, tmps.getD u undef, tmps.getD v undef, tmps.getD x undef]) w := by simp [results, h]

theorem lead_any (c : Nat) (hc : c < 256) (w : World) : Calls Try.prog 50 #[.int .u8 (c : Int)] w fun e w' => e = .returned (.tuple #[.int .i64 (M.lead8 c).1, .int .i64 (M.lead8 c).2.1, .int .u8 (M.lead8 c).2.2.1, .int .u8 (M.lead8 c).2.2.2]) ∧ w = w' := by
  by_cases h0 : c < 128
  · have H := Lib.hid (show M.lead8 c = (0, (c : Int), 0, 0) by rw [M.lead8, if_pos h0])
    go_enter Try.func50, Try.ntmps50
    go_wp2
    refine bodyPost_ret (results_tmp4 rfl _ _ _) rfl ?_
    rw [H.out]
    exact ⟨rfl, rfl⟩
  · skip
    by_cases h1 : c < 194 ∨ 244 < c
    · have H := Lib.hid (show M.lead8 c = (-1, 0, 0, 0) by rw [M.lead8, if_neg h0, if_pos h1])
      rcases h1 with h1 | h1
      all_goals
        go_enter Try.func50, Try.ntmps50
        go_wp2
        refine bodyPost_ret (results_tmp4 rfl _ _ _) rfl ?_
        rw [H.out]
        exact ⟨rfl, rfl⟩
    · skip
      by_cases h2 : c < 224
      · have H := Lib.hid (show M.lead8 c = (1, (c : Int) % 32, 128, 191) by rw [M.lead8, if_neg h0, if_neg h1, if_pos h2])
        go_enter Try.func50, Try.ntmps50
        go_wp2
        refine bodyPost_ret (results_tmp4 rfl _ _ _) rfl ?_
        rw [H.out]
        exact ⟨rfl, rfl⟩
      · skip
        by_cases h3 : c = 224
        · have H := Lib.hid (show M.lead8 c = (2, 0, 160, 191) by rw [M.lead8, if_neg h0, if_neg h1, if_neg h2, if_pos h3])
          have e3 : ((c : Int) == 224) = true := by rw [beq_iff_eq]; omega
          clear h3
          go_enter Try.func50, Try.ntmps50
          go_wp2
          refine bodyPost_ret (results_tmp4 rfl _ _ _) rfl ?_
          rw [H.out]
          exact ⟨rfl, rfl⟩
        · skip
          have e3 : ((c : Int) == 224) = false := by rw [beq_eq_false_iff_ne]; omega
          by_cases h4 : c = 237
          · have H := Lib.hid (show M.lead8 c = (2, 13, 128, 159) by rw [M.lead8, if_neg h0, if_neg h1, if_neg h2, if_neg h3, if_pos h4])
            have e4 : ((c : Int) == 237) = true := by rw [beq_iff_eq]; omega
            clear h4
            go_enter Try.func50, Try.ntmps50
            go_wp2
            refine bodyPost_ret (results_tmp4 rfl _ _ _) rfl ?_
            rw [H.out]
            exact ⟨rfl, rfl⟩
          · skip
            have e4 : ((c : Int) == 237) = false := by rw [beq_eq_false_iff_ne]; omega
            by_cases h5 : c < 240
            · have H := Lib.hid (show M.lead8 c = (2, (c : Int) % 16, 128, 191) by rw [M.lead8, if_neg h0, if_neg h1, if_neg h2, if_neg h3, if_neg h4, if_pos h5])
              go_enter Try.func50, Try.ntmps50
              go_wp2
              refine bodyPost_ret (results_tmp4 rfl _ _ _) rfl ?_
              rw [H.out]
              exact ⟨rfl, rfl⟩
            · skip
              by_cases h6 : c = 240
              · have H := Lib.hid (show M.lead8 c = (3, 0, 144, 191) by rw [M.lead8, if_neg h0, if_neg h1, if_neg h2, if_neg h3, if_neg h4, if_neg h5, if_pos h6])
                have e6 : ((c : Int) == 240) = true := by rw [beq_iff_eq]; omega
                clear h6
                go_enter Try.func50, Try.ntmps50
                go_wp2
                refine bodyPost_ret (results_tmp4 rfl _ _ _) rfl ?_
                rw [H.out]
                exact ⟨rfl, rfl⟩
              · skip
                have e6 : ((c : Int) == 240) = false := by rw [beq_eq_false_iff_ne]; omega
                by_cases h7 : c = 244
                · have H := Lib.hid (show M.lead8 c = (3, 4, 128, 143) by rw [M.lead8, if_neg h0, if_neg h1, if_neg h2, if_neg h3, if_neg h4, if_neg h5, if_neg h6, if_pos h7])
                  have e7 : ((c : Int) == 244) = true := by rw [beq_iff_eq]; omega
                  clear h7
                  go_enter Try.func50, Try.ntmps50
                  go_wp2
                  refine bodyPost_ret (results_tmp4 rfl _ _ _) rfl ?_
                  rw [H.out]
                  exact ⟨rfl, rfl⟩
                · skip
                  have e7 : ((c : Int) == 244) = false := by rw [beq_eq_false_iff_ne]; omega
                  have H := Lib.hid (show M.lead8 c = (3, (c : Int) % 8, 128, 191) by rw [M.lead8, if_neg h0, if_neg h1, if_neg h2, if_neg h3, if_neg h4, if_neg h5, if_neg h6, if_neg h7])
                  go_enter Try.func50, Try.ntmps50
                  go_wp2
                  refine bodyPost_ret (results_tmp4 rfl _ _ _) rfl ?_
                  rw [H.out]
                  exact ⟨rfl, rfl⟩
theorem lead_to (c : Nat) (hc : c < 256) (m n lo hi : Int) (h : M.lead8 c = (m, n, lo, hi)) (w : World) : Calls Try.prog 50 #[.int .u8 (c : Int)] w fun e w' => e = .returned (.tuple #[.int .i64 m, .int .i64 n, .int .u8 lo, .int .u8 hi]) ∧ w = w' := by
  have := lead_any c hc w; rw [h] at this; exact this
theorem first_any (s : ByteArray) (hs : 0 < s.size) (hs2 : s.size ≤ 68719476735) (w : World) : Calls Try.prog 42 #[.string s] w fun e w' => e = .returned (.tuple #[.int .i64 (M.first8 s.data.toList).1, .int .i64 (M.first8 s.data.toList).2.1, .bool (M.first8 s.data.toList).2.2]) ∧ w = w' := by
  have hz := Lib.hid (Lib.size_eq s)
  obtain ⟨⟨m, n, lo, hi⟩, hl⟩ : ∃ r, M.lead8 s[0].toNat = r := ⟨_, rfl⟩
  have hcons : s.data.toList = s[0] :: s.data.toList.drop 1 := by
    have h0 : 0 < s.data.toList.length := by rw [← Lib.size_eq]; exact hs
    have := List.drop_eq_getElem_cons h0
    rw [List.drop_zero] at this
    exact this
  have hf : M.first8 s.data.toList = if m < 0 then (65533, 1, true) else M.go8 m.toNat (s.data.toList.drop 1) 1 n lo hi := by
    rw [hcons, M.first8, hl]; simp
  have hbd := M.lead8_bounds s[0].toNat
  rw [hl] at hbd
  have Hl := Lib.hid hl
  clear hl hcons
  have hcb : s[0].toNat < 256 := s[0].toNat_lt
  rcases hbd with hm | ⟨hm0, hm3, hn0, hn1, hlo0, hlo1, hhi0, hhi1⟩
  · have hm' : m = -1 := hm
    subst hm'
    have HF := Lib.hid (show M.first8 s.data.toList = (65533, 1, true) by rw [hf, if_pos (by decide)])
    clear hf
    go_enter Try.func42, Try.ntmps42
    go_wp2_with (go_at_call 50; refine (lead_to _ hcb _ _ _ _ Hl.out _).mono ?_; rintro e w' ⟨rfl, rfl⟩)
    go_ret3
    rw [HF.out]
    exact ⟨rfl, rfl⟩
  · obtain ⟨mm, rfl⟩ := Int.eq_ofNat_of_zero_le hm0
    rw [if_neg (by omega), Int.toNat_natCast] at hf
    have HF := Lib.hid hf
    clear hf
    go_enter Try.func42, Try.ntmps42
    go_wp2_with (go_at_call 50; refine (lead_to _ hcb _ _ _ _ Hl.out _).mono ?_; rintro e w' ⟨rfl, rfl⟩)
    go_loop [6, 7, 8, 9] (fun vn vlo vhi vi => ∃ (k d : Nat) (n lo hi : Int), 1 ≤ k ∧ k + d = mm + 1 ∧ k ≤ s.size ∧ vi = .int .i64 k ∧ vn = .int .i64 n ∧ vlo = .int .u8 lo ∧ vhi = .int .u8 hi ∧ 0 ≤ n ∧ (n + 1) * 64 ^ d ≤ 33554432 ∧ Hid (M.first8 s.data.toList = M.go8 d (s.data.toList.drop k) k n lo hi)) (fun _ _ _ i => 5 - (intOf i).toNat)
    case atStart =>
      refine ⟨1, mm, n, lo, hi, by omega, by omega, by omega, rfl, rfl, rfl, rfl, hn0, ?_, HF⟩
      have : mm = 0 ∨ mm = 1 ∨ mm = 2 ∨ mm = 3 := by omega
      rcases this with rfl | rfl | rfl | rfl <;> omega
    case round =>
      obtain ⟨k, d, n, lo, hi, hk1, hkd, hks, rfl, rfl, rfl, rfl, hn0, hnd, HG⟩ := hrel
      have hk5 : k ≤ 4 := by omega
      have HZ := hz
      cases d with
      | zero =>
        have hk : mm + 1 = k := by omega
        have g1 : (mm : Int) < (k : Int) := by omega
        have g2 : (mm : Int) + 1 = (k : Int) := by omega
        have G2 := Lib.hid g2
        clear hk g2 hkd
        go_wp2_with fail
        go_ret3
        rw [HG.out, M.go8]
        refine ⟨?_, rfl⟩
        rw [← G2.out]
        rfl
      | succ d =>
        have hkm : (k : Int) ≤ (mm : Int) := by omega
        have hn2 : n ≤ 33554431 := by
          have h1 : 1 ≤ 64 ^ (d + 1) := Nat.pow_pos (by decide)
          have h2 : (n + 1) * 1 ≤ (n + 1) * 64 ^ (d + 1) := Int.mul_le_mul_of_nonneg_left (by exact_mod_cast h1) (by omega)
          omega
        by_cases he : k = s.size
        · have HD := Lib.hid (show M.first8 s.data.toList = (65533, (k : Int), false) by
            rw [HG.out, List.drop_of_length_le (by rw [← Lib.size_eq]; omega), M.go8])
          have e1 : ((k : Int) == (s.size : Int)) = true := by rw [beq_iff_eq]; omega
          clear he hnd hkd
          go_wp2_with fail
          go_ret3
          rw [HD.out]
          exact ⟨rfl, rfl⟩
        · have hlt : k < s.size := by omega
          have e1 : ((k : Int) == (s.size : Int)) = false := by rw [beq_eq_false_iff_ne]; omega
          have hdrop : s.data.toList.drop k = s[k] :: s.data.toList.drop (k + 1) := by
            exact List.drop_eq_getElem_cons (by rw [← Lib.size_eq]; exact hlt)
          by_cases h1 : (s[k].toNat : Int) < lo
          · have HD := Lib.hid (show M.first8 s.data.toList = (65533, (k : Int), true) by
              rw [HG.out, hdrop, M.go8, if_pos (.inl h1)])
            clear he hnd hkd hdrop
            go_wp2_with fail
            go_ret3
            rw [HD.out]
            exact ⟨rfl, rfl⟩
          · by_cases h2 : hi < (s[k].toNat : Int)
            · have HD := Lib.hid (show M.first8 s.data.toList = (65533, (k : Int), true) by
                rw [HG.out, hdrop, M.go8, if_pos (.inr h2)])
              clear he hnd hkd hdrop
              go_wp2_with fail
              go_ret3
              rw [HD.out]
              exact ⟨rfl, rfl⟩
            · have HD := Lib.hid (show M.first8 s.data.toList = M.go8 d (s.data.toList.drop (k + 1)) ((k : Int) + 1) (n * 64 + (s[k].toNat : Int) % 64) 128 191 by
                rw [HG.out, hdrop, M.go8, if_neg (by omega)])
              have HK := Lib.hid (show (n * 64 + (s[k].toNat : Int) % 64 + 1) * 64 ^ d ≤ 33554432 by
                have h3 : (n * 64 + (s[k].toNat : Int) % 64 + 1) ≤ (n + 1) * 64 := by omega
                have h4 : (n * 64 + (s[k].toNat : Int) % 64 + 1) * 64 ^ d ≤ (n + 1) * 64 * 64 ^ d := Int.mul_le_mul_of_nonneg_right h3 (Int.pow_nonneg (by decide))
                have h5 : (n + 1) * 64 * 64 ^ d = (n + 1) * 64 ^ (d + 1) := by rw [Int.pow_succ, Int.mul_assoc, Int.mul_comm (64 : Int)]
                omega)
              have HKD := Lib.hid hkd
              have b0 : (0 : Int) ≤ (s[k].toNat : Int) := by omega
              have b1 : (s[k].toNat : Int) ≤ 255 := by have := s[k].toNat_lt; omega
              have hor := or_64 n ((s[k].toNat : Int) % 64) hn0 hn2 (by omega) (by omega)
              have HN : 0 ≤ n * 64 + (s[k].toNat : Int) % 64 := by omega
              clear he hnd hkd hdrop
              go_wp2_with fail
              go_round
              case rel => exact ⟨k + 1, d, _, _, _, by omega, by have := HKD.out; omega, by omega, by go_num, rfl, rfl, rfl, HN, HK.out, HD⟩
              case measure => simp [intOf]; omega
end Go.Proofs.Ytcgdecpjlggekaa

/-
  Package utf8: what Told, All, Decode, Split compute.
-/
namespace Go.Proofs.Ytcgdecpjlggekaa
open Go.RowKit
set_option maxRecDepth 100000

theorem first_to (s : ByteArray) (n k : Int) (b : Bool) (h : M.first8 s.data.toList = (n, k, b)) (hs : 0 < s.size) (hs2 : s.size ≤ 68719476735) (w : World) : Calls Try.prog 42 #[.string s] w fun e w' => e = .returned (.tuple #[.int .i64 n, .int .i64 k, .bool b]) ∧ w = w' := by
  have := first_any s hs hs2 w; rw [h] at this; exact this
theorem told8_any (s : ByteArray) (hs : s.size ≤ 68719476735) (w : World) : Calls Try.prog 37 #[.string s] w fun e w' => ∃ v, e = .returned (.tuple #[v, .string ⟨(M.told8 s.data.toList).2.toArray⟩]) ∧ Own w.heap.size 3 w' v ((M.told8 s.data.toList).1.map (Value.int .i64)) ∧ Bel w w' := by
  go_enter Try.func37, Try.ntmps37
  go_wp2_with fail
  go_loopw [0, 4] (fun vs v wr => ∃ (s' : ByteArray) (xs : List Int), vs = .string s' ∧ xs.length + s'.size ≤ s.size ∧ Hid (M.told8 s.data.toList = (xs ++ (M.told8 s'.data.toList).1, (M.told8 s'.data.toList).2)) ∧ Own w.heap.size 3 wr v (xs.map (Value.int .i64)) ∧ Bel w wr) (fun vs _ _ => strLen vs)
  case atStart => exact ⟨s, [], rfl, by simp, Lib.hid (by simp), Own.nil _ _ _, Bel.refl _⟩
  case round =>
    obtain ⟨s', xs, rfl, hle, HT, hown, hb⟩ := hrel
    by_cases he : s'.size = 0
    · have e0 : s'.toList = [] := by rw [Lib.toList_data]; exact List.eq_nil_of_length_eq_zero (by rw [← Lib.size_eq]; exact he)
      have HF := Lib.hid (show M.told8 s.data.toList = (xs, s'.data.toList) by
        rw [HT.out, ← Lib.toList_data, e0]; simp [M.told8_nil])
      have e1 : (!s'.toList.isEmpty) = false := by rw [e0]; rfl
      clear he e0
      go_wp2_with fail
      go_ret2
      rw [HF.out]
      exact ⟨_, by rw [str_eq]; rfl, hown, hb⟩
    · have hpos : 0 < s'.size := by omega
      have e1 : (!s'.toList.isEmpty) = true := by
        rw [Lib.toList_data]
        have : s'.data.toList ≠ [] := fun h => he (by rw [Lib.size_eq, h]; rfl)
        simpa using this
      obtain ⟨c, t, hct⟩ := cons_of_pos s' hpos
      obtain ⟨⟨n, k, b⟩, hf⟩ : ∃ r, M.first8 s'.data.toList = r := ⟨_, rfl⟩
      have hbd : 1 ≤ k ∧ k ≤ (s'.size : Int) := by
        have h2 := M.first8_bounds c t
        rw [← hct, hf, ← Lib.size_eq] at h2
        exact h2
      obtain ⟨kk, rfl⟩ := Int.eq_ofNat_of_zero_le (show 0 ≤ k by omega)
      have Hf := Lib.hid hf
      cases b with
      | false =>
        have HF := Lib.hid (show M.told8 s.data.toList = (xs, s'.data.toList) by
          rw [HT.out, hct, M.told8_no c t (by rw [← hct, hf])]; simp)
        clear he hf hct
        go_wp2_with (go_at_call 42; refine (first_to _ _ _ _ Hf.out hpos (by omega) _).mono ?_; rintro e w' ⟨rfl, rfl⟩)
        go_ret2
        rw [HF.out]
        exact ⟨_, by rw [str_eq]; rfl, hown, hb⟩
      | true =>
        have HF := Lib.hid (show M.told8 s.data.toList = ((xs ++ [n]) ++ (M.told8 (s'.extract kk s'.size).data.toList).1, (M.told8 (s'.extract kk s'.size).data.toList).2) by
          rw [HT.out, drop_str, hct, M.told8_ok c t (by rw [← hct, hf]), ← hct, hf]; simp)
        have HS := Lib.hid (drop_size s' kk)
        have hk1 : 1 ≤ kk := by omega
        have hk2 : kk ≤ s'.size := by omega
        clear he hf hct hbd
        go_wp2_with (first | (go_at_call 42; refine (first_to _ _ _ _ Hf.out hpos (by omega) _).mono ?_; rintro e w' ⟨rfl, rfl⟩) | (at_builtin; refine wpList_app rfl (.tmp 18) (.tmp 20) 24 rfl elemInt (by decide) w.heap.size _ _ _ rfl rfl hown rfl (by simp; omega) (by first | exact Nat.le_refl _ | assumption | (have := hb.size; omega)) ?_; intro v' w1 hown' hb1))
        go_roundw
        case rel => exact ⟨_, xs ++ [n], rfl, by rw [HS.out, List.length_append, List.length_singleton]; omega, HF, by rw [List.map_append]; exact hown', hb.upto hb1 (Nat.le_refl _)⟩
        case measure => simp only [strLen, HS.out]; omega
theorem told8_to (s : ByteArray) (xs : List Int) (l : List UInt8) (h : M.told8 s.data.toList = (xs, l)) (hs : s.size ≤ 68719476735) (w : World) : Calls Try.prog 37 #[.string s] w fun e w' => ∃ v, e = .returned (.tuple #[v, .string ⟨l.toArray⟩]) ∧ Own w.heap.size 3 w' v (xs.map (Value.int .i64)) ∧ Bel w w' := by
  have := told8_any s hs w; rw [h] at this; exact this
theorem all8_any (s : ByteArray) (hs : s.size ≤ 68719476734) (w : World) : Calls Try.prog 28 #[.string s] w fun e w' => ∃ v, e = .returned v ∧ Own w.heap.size 3 w' v ((M.all8 s.data.toList).map (Value.int .i64)) ∧ Bel w w' := by
  obtain ⟨⟨xs, l⟩, ht⟩ : ∃ r, M.told8 s.data.toList = r := ⟨_, rfl⟩
  have hlen := M.told8_len s.data.toList
  rw [ht, ← Lib.size_eq] at hlen
  have Ht := Lib.hid ht
  by_cases he : l = []
  · subst he
    have HA := Lib.hid (show M.all8 s.data.toList = xs by rw [M.all8, ht, if_pos rfl])
    clear ht hlen
    go_enter Try.func28, Try.ntmps28
    go_wp2_with (go_at_call 37; refine (told8_to _ _ _ Ht.out (by omega) _).mono ?_; rintro e w' ⟨v, rfl, ho, hb⟩)
    go_ret
    rw [HA.out]
    exact ⟨_, rfl, by assumption, by assumption⟩
  · have HA := Lib.hid (show M.all8 s.data.toList = xs ++ [65533] by rw [M.all8, ht, if_neg he])
    have e1 : (!l.isEmpty) = true := by simpa using he
    have hl2 : xs.length ≤ s.size := by simp only at hlen; omega
    clear ht hlen he
    go_enter Try.func28, Try.ntmps28
    go_wp2_with (first | (go_at_call 37; refine (told8_to _ _ _ Ht.out (by omega) _).mono ?_; rintro e w' ⟨v, rfl, ho, hb⟩; have hB := hb.size) | (at_builtin; refine wpList_app rfl (.tmp 12) (.tmp 13) 24 rfl elemInt (by decide) w.heap.size _ _ _ rfl rfl ho rfl (by simp; omega) (by first | exact Nat.le_refl _ | assumption | (have := hb.size; omega)) ?_; intro v' w1 hown' hb1))
    go_ret
    rw [HA.out]
    exact ⟨_, rfl, by rw [List.map_append]; exact hown', hb.upto hb1 (Nat.le_refl _)⟩
end Go.Proofs.Ytcgdecpjlggekaa

/-
  A block that is known whole: a struct behind a pointer, a variable that a closure holds.
-/
namespace Go.Proofs.Ytcgdecpjlggekaa
open Go.RowKit

/-- Block g holds just these cells, and none is frozen. -/
def Box (w : World) (g : Nat) (t : TypeId) (cs : List Value) : Prop := w.heap[g]? = some (.cells cs.toArray t (0, 0))
section
variable {w w' : World} {g B : Nat} {t : TypeId} {cs : List Value}
theorem Box.lt (h : Box w g t cs) : g < w.heap.size := by
  unfold Box at h
  exact (Array.getElem?_eq_some_iff.1 h).1
theorem Box.cell (h : Box w g t cs) (i : Nat) (v : Value) (hv : cs[i]? = some v) : w.cell? ⟨g, i, none⟩ = some v := by
  unfold Box at h
  simp [World.cell?, h, hv]
theorem Box.frozen (h : Box w g t cs) (i : Nat) : w.frozen? ⟨g, i, none⟩ = false := by
  unfold Box at h
  simp [World.frozen?, h]
theorem Box.bel (h : Box w g t cs) (hb : Bel w w') : Box w' g t cs := (hb.block g h.lt).trans h
theorem Box.upto (h : Box w g t cs) (hb : Below B w w') (hg : g < B) : Box w' g t cs := (hb.block g hg).trans h
theorem Box.new (w : World) (t : TypeId) (cs : List Value) : Box (w.alloc (.cells cs.toArray t)) w.heap.size t cs := heap_alloc_new w _
theorem Box.drewN (h : Box w g t cs) (n : Nat) : Box (w.drewN n) g t cs := h
theorem Box.set (h : Box w g t cs) (i : Nat) (u : Value) : Box (w.setCell ⟨g, i, none⟩ u) g t (cs.set i u) := by
  unfold Box at h ⊢
  simp [World.setCell, Array.getElem?_modify, h]
theorem Box.far (h : Box w g t cs) {p : Addr} (hp : g ≠ p.block) (u : Value) : Box (w.setCell p u) g t cs := (Below.heap_setCell w p u g hp).trans h
theorem Box.set0 {u v : Value} (h : Box w g t [v]) : Box (w.setCell ⟨g, 0, none⟩ u) g t [u] := h.set 0 u
end
theorem Own.setCell {B : Nat} {e : TypeId} {w : World} {v : Value} {xs : List Value} (h : Own B e w v xs) {p : Addr} (hp : p.block < B) (u : Value) : Own B e (w.setCell p u) v xs := by
  refine ⟨h.1, ?_⟩
  rcases h.2 with h2 | ⟨g, cap, cur, r0, r1, r2, r3⟩
  · exact .inl h2
  · exact .inr ⟨g, cap, cur, r0, r1, (Below.heap_setCell w p u g (by omega)).trans r2, r3⟩
theorem bel_store {w wr w1 : World} {B g i : Nat} (h : Bel w wr) (k : Below B wr w1) (hB : w.heap.size ≤ B) (hg : w.heap.size ≤ g) (u : Value) : Bel w (w1.setCell ⟨g, i, none⟩ u) :=
  (Bel.upto h k hB).setCell hg u
end Go.Proofs.Ytcgdecpjlggekaa

/-
  UTF-16, in plain functions and laws.
-/
namespace Go.Proofs.Ytcgdecpjlggekaa.M
open Go

def unit16 (big : Bool) (a b : UInt8) : Int := if big then 256 * (a.toNat : Int) + (b.toNat : Int) else (a.toNat : Int) + 256 * (b.toNat : Int)
def isHi (n : Int) : Bool := decide (55296 ≤ n ∧ n ≤ 56319)
def isLo (n : Int) : Bool := decide (56320 ≤ n ∧ n ≤ 57343)
def pair16 (n m : Int) : Int := 65536 + 1024 * (n - 55296) + (m - 56320)
def told16 (big : Bool) : Bs → List Int × Bs
  | [] => ([], [])
  | [a] => ([], [a])
  | [a, b] => if isHi (unit16 big a b) = true then ([], [a, b]) else ([if isLo (unit16 big a b) = true then 65533 else unit16 big a b], [])
  | [a, b, c] => if isHi (unit16 big a b) = true then ([], [a, b, c]) else ([if isLo (unit16 big a b) = true then 65533 else unit16 big a b], [c])
  | a :: b :: c :: d :: u =>
    if isHi (unit16 big a b) = true then
      (if isLo (unit16 big c d) = true then (pair16 (unit16 big a b) (unit16 big c d) :: (told16 big u).1, (told16 big u).2) else (65533 :: (told16 big (c :: d :: u)).1, (told16 big (c :: d :: u)).2))
    else ((if isLo (unit16 big a b) = true then 65533 else unit16 big a b) :: (told16 big (c :: d :: u)).1, (told16 big (c :: d :: u)).2)
def all16 (big : Bool) (s : Bs) : List Int := if (told16 big s).2 = [] then (told16 big s).1 else (told16 big s).1 ++ [65533]
def dec16 (big : Bool) (s : Bs) : List Int × Int := if 3000 < s.length then ([], 2) else (all16 big s, 0)
def put16 (big : Bool) (n : Nat) : Bs := if big then [UInt8.ofNat (n / 256), UInt8.ofNat (n % 256)] else [UInt8.ofNat (n % 256), UInt8.ofNat (n / 256)]
def row16 (big : Bool) (n : Int) : Bs := if n < 65536 then put16 big n.toNat else put16 big (55296 + (n.toNat - 65536) / 1024) ++ put16 big (56320 + (n.toNat - 65536) % 1024)
def bytes16 (big : Bool) (l : List Int) : Bs := l.flatMap (row16 big)
def enc16 (big : Bool) (l : List Int) : Bs × Int := if points l = 0 then (bytes16 big l, 0) else ([], points l)

theorem unit16_le (big : Bool) (a b : UInt8) : 0 ≤ unit16 big a b ∧ unit16 big a b ≤ 65535 := by
  have := a.toNat_lt; have := b.toNat_lt
  unfold unit16; split <;> omega
/-- What one unit that begins none of two tells. -/
def one16 (n : Int) : Int := if isLo n = true then 65533 else n
theorem told16_nil (big : Bool) : told16 big [] = ([], []) := by rw [told16]
theorem told16_one (big : Bool) (a : UInt8) : told16 big [a] = ([], [a]) := by rw [told16]
theorem told16_plain (big : Bool) (a b : UInt8) (t : Bs) (h : isHi (unit16 big a b) = false) : told16 big (a :: b :: t) = (one16 (unit16 big a b) :: (told16 big t).1, (told16 big t).2) := by
  match t with
  | [] => rw [told16_nil, told16, if_neg (by rw [h]; decide)]; rfl
  | [c] => rw [told16_one, told16, if_neg (by rw [h]; decide)]; rfl
  | c :: d :: u => rw [told16, if_neg (by rw [h]; decide)]; rfl
theorem told16_wait (big : Bool) (a b : UInt8) (t : Bs) (h : isHi (unit16 big a b) = true) (ht : t.length < 2) : told16 big (a :: b :: t) = ([], a :: b :: t) := by
  match t, ht with
  | [], _ => rw [told16, if_pos h]
  | [c], _ => rw [told16, if_pos h]
  | c :: d :: u, ht => simp only [List.length_cons] at ht; omega
theorem told16_two (big : Bool) (a b c d : UInt8) (u : Bs) (h : isHi (unit16 big a b) = true) (h2 : isLo (unit16 big c d) = true) : told16 big (a :: b :: c :: d :: u) = (pair16 (unit16 big a b) (unit16 big c d) :: (told16 big u).1, (told16 big u).2) := by
  rw [told16, if_pos h, if_pos h2]
theorem told16_lone (big : Bool) (a b c d : UInt8) (u : Bs) (h : isHi (unit16 big a b) = true) (h2 : isLo (unit16 big c d) = false) : told16 big (a :: b :: c :: d :: u) = (65533 :: (told16 big (c :: d :: u)).1, (told16 big (c :: d :: u)).2) := by
  rw [told16, if_pos h, if_neg (by rw [h2]; decide)]
theorem all16_cons (big : Bool) (s : Bs) (n : Int) (u : Bs) (h : told16 big s = (n :: (told16 big u).1, (told16 big u).2)) : all16 big s = n :: all16 big u := by
  rw [all16, h, all16]; split <;> rfl
theorem all16_nil (big : Bool) : all16 big [] = [] := by rw [all16, told16_nil]; rfl
theorem all16_wait (big : Bool) (s : Bs) (hs : s ≠ []) (h : told16 big s = ([], s)) : all16 big s = [65533] := by
  rw [all16, h, if_neg hs]; rfl
/-- The ways of a text of two bytes or more. -/
theorem say16 (big : Bool) (a b : UInt8) (t : Bs) :
    (isHi (unit16 big a b) = false ∧ told16 big (a :: b :: t) = (one16 (unit16 big a b) :: (told16 big t).1, (told16 big t).2)) ∨
    (isHi (unit16 big a b) = true ∧ t.length < 2 ∧ told16 big (a :: b :: t) = ([], a :: b :: t)) ∨
    (∃ c d u, t = c :: d :: u ∧ isHi (unit16 big a b) = true ∧ isLo (unit16 big c d) = true ∧ told16 big (a :: b :: t) = (pair16 (unit16 big a b) (unit16 big c d) :: (told16 big u).1, (told16 big u).2)) ∨
    (∃ c d u, t = c :: d :: u ∧ isHi (unit16 big a b) = true ∧ isLo (unit16 big c d) = false ∧ told16 big (a :: b :: t) = (65533 :: (told16 big t).1, (told16 big t).2)) := by
  cases h : isHi (unit16 big a b) with
  | false => exact .inl ⟨rfl, told16_plain big a b t h⟩
  | true =>
    match t with
    | [] => exact .inr (.inl ⟨rfl, by simp, told16_wait big a b [] h (by simp)⟩)
    | [c] => exact .inr (.inl ⟨rfl, by simp, told16_wait big a b [c] h (by simp)⟩)
    | c :: d :: u =>
      cases h2 : isLo (unit16 big c d) with
      | false => exact .inr (.inr (.inr ⟨c, d, u, rfl, rfl, h2, told16_lone big a b c d u h h2⟩))
      | true => exact .inr (.inr (.inl ⟨c, d, u, rfl, rfl, h2, told16_two big a b c d u h h2⟩))
theorem told16_len (big : Bool) : ∀ (k : Nat) (s : Bs), s.length ≤ k → 2 * (told16 big s).1.length + (told16 big s).2.length ≤ s.length ∧ (told16 big s).2.length ≤ 3
  | _, [], _ => by simp [told16_nil]
  | _, [a], _ => by simp [told16_one]
  | 0, _ :: _ :: _, h => by simp at h
  | k + 1, a :: b :: t, h => by
    simp only [List.length_cons] at h
    rcases say16 big a b t with ⟨_, e⟩ | ⟨_, h2, e⟩ | ⟨c, d, u, rfl, _, _, e⟩ | ⟨c, d, u, rfl, _, _, e⟩
    · obtain ⟨h1, h2⟩ := told16_len big k t (by omega)
      rw [e]; simp only [List.length_cons]; omega
    · rw [e]; simp only [List.length_cons, List.length_nil]; omega
    · simp only [List.length_cons] at h
      obtain ⟨h1, h2⟩ := told16_len big k u (by omega)
      rw [e]; simp only [List.length_cons]; omega
    · obtain ⟨h1, h2⟩ := told16_len big k (c :: d :: u) (by omega)
      rw [e]; simp only [List.length_cons] at h1 ⊢; omega
theorem all16_len (big : Bool) (s : Bs) : (all16 big s).length ≤ s.length := by
  obtain ⟨h1, _⟩ := told16_len big _ s (Nat.le_refl _)
  unfold all16
  split
  · omega
  · rename_i hr
    have : (told16 big s).2.length ≠ 0 := fun h => hr (List.eq_nil_of_length_eq_zero h)
    rw [List.length_append, List.length_singleton]; omega
theorem one16_scalar (n : Int) (h0 : 0 ≤ n) (h1 : n ≤ 65535) (h : isHi n = false) : scalar (one16 n) = true := by
  unfold one16
  split
  · decide
  · rename_i h2
    simp only [isHi, isLo, decide_eq_true_eq, decide_eq_false_iff_not] at h h2
    simp only [scalar, decide_eq_true_eq]; omega
theorem all16_scalar (big : Bool) : ∀ (k : Nat) (s : Bs), s.length ≤ k → ∀ n ∈ all16 big s, scalar n = true
  | _, [], _ => by simp [all16_nil]
  | _, [a], _ => by rw [all16_wait big [a] (by simp) (told16_one big a)]; simp [scalar]
  | 0, _ :: _ :: _, h => by simp at h
  | k + 1, a :: b :: t, h => by
    simp only [List.length_cons] at h
    obtain ⟨u0, u1⟩ := unit16_le big a b
    rcases say16 big a b t with ⟨h0, e⟩ | ⟨_, h2, e⟩ | ⟨c, d, u, rfl, h1, h2, e⟩ | ⟨c, d, u, rfl, _, _, e⟩
    · rw [all16_cons big _ _ _ e]
      simp only [List.mem_cons, forall_eq_or_imp]
      exact ⟨one16_scalar _ u0 u1 h0, all16_scalar big k t (by omega)⟩
    · rw [all16_wait big _ (by simp) e]; simp [scalar]
    · simp only [List.length_cons] at h
      rw [all16_cons big _ _ _ e]
      simp only [List.mem_cons, forall_eq_or_imp]
      refine ⟨?_, all16_scalar big k u (by omega)⟩
      simp only [isHi, isLo, decide_eq_true_eq] at h1 h2
      rw [scalar, decide_eq_true_eq, pair16]; omega
    · rw [all16_cons big _ _ _ e]
      simp only [List.mem_cons, forall_eq_or_imp]
      exact ⟨by decide, all16_scalar big k (c :: d :: u) (by omega)⟩
/-! ## What is encoded is decoded as it was -/
theorem u8n (k : Nat) (h : k < 256) : (UInt8.ofNat k).toNat = k := UInt8.toNat_ofNat_of_lt' h
theorem put16_unit (big : Bool) (n : Nat) (h : n < 65536) : ∃ a b, put16 big n = [a, b] ∧ unit16 big a b = (n : Int) := by
  unfold put16
  cases big
  · refine ⟨_, _, rfl, ?_⟩
    simp only [unit16, Bool.false_eq_true, if_false, u8n (n % 256) (by omega), u8n (n / 256) (by omega)]; omega
  · refine ⟨_, _, rfl, ?_⟩
    simp only [unit16, if_true, u8n (n % 256) (by omega), u8n (n / 256) (by omega)]; omega
theorem told16_row (big : Bool) (n : Int) (h : scalar n = true) (u : Bs) : told16 big (row16 big n ++ u) = (n :: (told16 big u).1, (told16 big u).2) := by
  simp only [scalar, decide_eq_true_eq] at h
  obtain ⟨m, rfl⟩ := Int.eq_ofNat_of_zero_le h.1
  by_cases h1 : m < 65536
  · rw [row16, if_pos (by omega), Int.toNat_natCast]
    obtain ⟨a, b, e1, e2⟩ := put16_unit big m h1
    rw [e1]
    have h3 : isHi (unit16 big a b) = false := by rw [e2]; simp only [isHi, decide_eq_false_iff_not]; omega
    have h4 : isLo (unit16 big a b) = false := by rw [e2]; simp only [isLo, decide_eq_false_iff_not]; omega
    rw [List.cons_append, List.cons_append, List.nil_append, told16_plain big a b u h3, one16, if_neg (by rw [h4]; decide), e2]
  · rw [row16, if_neg (by omega), Int.toNat_natCast]
    obtain ⟨a, b, e1, e2⟩ := put16_unit big (55296 + (m - 65536) / 1024) (by omega)
    obtain ⟨c, d, e3, e4⟩ := put16_unit big (56320 + (m - 65536) % 1024) (by omega)
    rw [e1, e3]
    have h3 : isHi (unit16 big a b) = true := by rw [e2]; simp only [isHi, decide_eq_true_eq]; omega
    have h4 : isLo (unit16 big c d) = true := by rw [e4]; simp only [isLo, decide_eq_true_eq]; omega
    have h5 : pair16 (unit16 big a b) (unit16 big c d) = (m : Int) := by rw [e2, e4, pair16]; omega
    rw [show ([a, b] ++ [c, d] ++ u) = a :: b :: c :: d :: u from rfl, told16_two big a b c d u h3 h4, h5]
theorem all16_bytes (big : Bool) : ∀ l : List Int, (∀ n ∈ l, scalar n = true) → all16 big (bytes16 big l) = l
  | [], _ => all16_nil big
  | n :: l, h => by
    have : bytes16 big (n :: l) = row16 big n ++ bytes16 big l := rfl
    rw [this, all16_cons big _ _ _ (told16_row big n (h n (by simp)) _), all16_bytes big l (fun m hm => h m (by simp [hm]))]
theorem row16_len (big : Bool) (n : Int) : (row16 big n).length ≤ 4 := by
  unfold row16 put16; cases big <;> split <;> simp
/-! ## Turned two by two -/
def turn16 : Bs → Bs
  | a :: b :: t => b :: a :: turn16 t
  | l => l
theorem unit16_turn (a b : UInt8) : unit16 false b a = unit16 true a b := by simp only [unit16, if_true, Bool.false_eq_true, if_false]; omega
theorem turn16_len : ∀ s : Bs, (turn16 s).length = s.length
  | [] => rfl
  | [_] => rfl
  | a :: b :: t => by rw [turn16]; simp [turn16_len t]
theorem all16_turn : ∀ (k : Nat) (s : Bs), s.length ≤ k → s.length % 2 = 0 → all16 false (turn16 s) = all16 true s
  | _, [], _, _ => by rw [turn16, all16_nil, all16_nil]; simp
  | _, [a], _, h => by simp at h
  | 0, _ :: _ :: _, h, _ => by simp at h
  | k + 1, a :: b :: t, h, h2 => by
    simp only [List.length_cons] at h h2
    have hu := unit16_turn a b
    rw [turn16]
    rcases say16 true a b t with ⟨h0, e⟩ | ⟨h0, h3, e⟩ | ⟨c, d, u, rfl, h1, h3, e⟩ | ⟨c, d, u, rfl, h1, h3, e⟩
    · rw [all16_cons true _ _ _ e, all16_cons false _ _ _ (told16_plain false b a _ (by rw [hu]; exact h0)), hu, all16_turn k t (by omega) (by omega)]
    · rw [all16_wait true _ (by simp) e, all16_wait false _ (by simp) (told16_wait false b a _ (by rw [hu]; exact h0) (by rw [turn16_len]; exact h3))]
    · simp only [List.length_cons] at h h2
      have hv := unit16_turn c d
      rw [all16_cons true _ _ _ e, turn16, all16_cons false _ _ _ (told16_two false b a d c _ (by rw [hu]; exact h1) (by rw [hv]; exact h3)), hu, hv, all16_turn k u (by omega) (by omega)]
    · have hv := unit16_turn c d
      have ih := all16_turn k (c :: d :: u) (by omega) (by omega)
      rw [turn16] at ih ⊢
      rw [all16_cons true _ _ _ e, all16_cons false _ _ _ (told16_lone false b a d c _ (by rw [hu]; exact h1) (by rw [hv]; exact h3)), ih]
/-! ## Where a text may be cut -/
/-- Is the last unit the first one of two? -/
def lastHi (big : Bool) : Bs → Bool
  | [a, b] => isHi (unit16 big a b)
  | _ :: _ :: t => lastHi big t
  | _ => false
theorem lastHi_cons (big : Bool) (a b : UInt8) (t : Bs) (h : t ≠ []) : lastHi big (a :: b :: t) = lastHi big t := by
  cases t with
  | nil => exact absurd rfl h
  | cons x y => rw [lastHi]; simp
theorem all16_parts (big : Bool) : ∀ (k : Nat) (s t : Bs), s.length ≤ k → s.length % 2 = 0 → (all16 big (s ++ t)).length ≤ (all16 big s).length + (all16 big t).length ∧ (lastHi big s = false → all16 big (s ++ t) = all16 big s ++ all16 big t)
  | _, [], t, _, _ => by simp [all16_nil]
  | _, [a], _, _, h => by simp at h
  | 0, _ :: _ :: _, _, h, _ => by simp at h
  | k + 1, a :: b :: s, t, h, h2 => by
    simp only [List.length_cons] at h h2
    rw [List.cons_append, List.cons_append]
    rcases say16 big a b s with ⟨h0, e⟩ | ⟨h0, h3, e⟩ | ⟨c, d, u, rfl, h1, h3, e⟩ | ⟨c, d, u, rfl, h1, h3, e⟩
    · obtain ⟨i1, i2⟩ := all16_parts big k s t (by omega) (by omega)
      rw [all16_cons big _ _ _ e, all16_cons big _ _ _ (told16_plain big a b (s ++ t) h0)]
      refine ⟨by simp only [List.length_cons]; omega, fun hl => ?_⟩
      rw [i2, List.cons_append]
      cases s with
      | nil => rfl
      | cons x y => rwa [lastHi_cons big a b _ (by simp)] at hl
    · have hs : s = [] := List.eq_nil_of_length_eq_zero (by omega)
      subst hs
      rw [List.nil_append, all16_wait big _ (by simp) e]
      refine ⟨?_, fun hl => ?_⟩
      · rcases say16 big a b t with ⟨g0, _⟩ | ⟨_, _, g⟩ | ⟨c, d, u, rfl, g1, g2, g⟩ | ⟨c, d, u, rfl, _, _, g⟩
        · rw [h0] at g0; cases g0
        · rw [all16_wait big _ (by simp) g]; simp
        · have g3 : isHi (unit16 big c d) = false := by
            simp only [isLo, isHi, decide_eq_true_eq, decide_eq_false_iff_not] at g2 ⊢; omega
          rw [all16_cons big _ _ _ g, all16_cons big (c :: d :: u) _ _ (told16_plain big c d u g3)]
          simp only [List.length_cons, List.length_nil]; omega
        · rw [all16_cons big _ _ _ g]; simp only [List.length_cons, List.length_nil]; omega
      · rw [lastHi, h0] at hl; cases hl
    · simp only [List.length_cons] at h h2
      obtain ⟨i1, i2⟩ := all16_parts big k u t (by omega) (by omega)
      rw [all16_cons big _ _ _ e, List.cons_append, List.cons_append, all16_cons big _ _ _ (told16_two big a b c d (u ++ t) h1 h3)]
      refine ⟨by simp only [List.length_cons]; omega, fun hl => ?_⟩
      rw [i2, List.cons_append]
      rw [lastHi_cons big a b _ (by simp)] at hl
      cases u with
      | nil => rfl
      | cons x y => rwa [lastHi_cons big c d _ (by simp)] at hl
    · obtain ⟨i1, i2⟩ := all16_parts big k (c :: d :: u) t (by omega) (by omega)
      rw [List.cons_append, List.cons_append] at i1 i2
      rw [all16_cons big _ _ _ e, List.cons_append, List.cons_append, all16_cons big _ _ _ (told16_lone big a b c d (u ++ t) h1 h3)]
      refine ⟨by simp only [List.length_cons] at i1 ⊢; omega, fun hl => ?_⟩
      rw [lastHi_cons big a b _ (by simp)] at hl
      rw [i2 hl, List.cons_append]
/-- The greater byte of the last unit says it. -/
theorem lastHi_byte (big : Bool) : ∀ (k : Nat) (s : Bs), s.length ≤ k → s.length % 2 = 0 → s ≠ [] → ∀ c : UInt8, s[s.length - (if big then 2 else 1)]? = some c → lastHi big s = decide (216 ≤ c.toNat ∧ c.toNat ≤ 219)
  | _, [], _, _, h, _, _ => absurd rfl h
  | _, [a], _, h, _, _, _ => by simp at h
  | 0, _ :: _ :: _, h, _, _, _, _ => by simp at h
  | k + 1, a :: b :: t, h, h2, _, c, hc => by
    cases t with
    | nil =>
      have := a.toNat_lt; have := b.toNat_lt
      rw [lastHi, isHi, decide_eq_decide, unit16]
      cases big
      · simp at hc; subst hc; simp; omega
      · simp at hc; subst hc; simp; omega
    | cons x y =>
      cases y with
      | nil => simp at h2
      | cons x' y =>
        rw [lastHi_cons big a b _ (by simp)]
        refine lastHi_byte big k (x :: x' :: y) (by simp only [List.length_cons] at *; omega) (by simp only [List.length_cons] at *; omega) (by simp) c ?_
        rw [← hc]
        cases big
        · simp
        · simp
end Go.Proofs.Ytcgdecpjlggekaa.M

/-
  Package utf16: what unit, high, low, Told compute.
-/
namespace Go.Proofs.Ytcgdecpjlggekaa
open Go.RowKit
set_option maxRecDepth 1000000

theorem unit_any (big : Bool) (a b : UInt8) (w : World) : Calls Try.prog 51 #[.bool big, .int .u8 (a.toNat : Int), .int .u8 (b.toNat : Int)] w fun e w' => e = .returned (.int .i64 (M.unit16 big a b)) ∧ w = w' := by
  have ha := a.toNat_lt
  have hb := b.toNat_lt
  cases big
  · have H := Lib.hid (show M.unit16 false a b = (b.toNat : Int) * 256 + (a.toNat : Int) by simp only [M.unit16, Bool.false_eq_true, if_false]; omega)
    have o1 := or_256 (b.toNat : Int) (a.toNat : Int) (by omega) (by omega) (by omega) (by omega)
    generalize a.toNat = x at ha o1 H
    generalize b.toNat = y at hb o1 H
    go_enter Try.func51, Try.ntmps51
    go_wp2_with fail
    go_ret
    rw [H.out]
    exact ⟨rfl, rfl⟩
  · have H := Lib.hid (show M.unit16 true a b = (a.toNat : Int) * 256 + (b.toNat : Int) by simp only [M.unit16, if_true]; omega)
    have o1 := or_256 (a.toNat : Int) (b.toNat : Int) (by omega) (by omega) (by omega) (by omega)
    generalize a.toNat = x at ha o1 H
    generalize b.toNat = y at hb o1 H
    go_enter Try.func51, Try.ntmps51
    go_wp2_with fail
    go_ret
    rw [H.out]
    exact ⟨rfl, rfl⟩
theorem quietL {P : Program} {f : FuncId} {args : Array Value} {w : World} {n : Nat} {v : Value} (h : Calls P f args (w.drewN n) fun e w' => e = .returned v ∧ w.drewN n = w') : Calls P f args (w.drewN n) fun e w'' => e = .returned v ∧ ∃ m, w'' = w.drewN m :=
  h.mono fun _ _ ⟨he, hm⟩ => ⟨he, n, hm.symm⟩
theorem head_at (s : ByteArray) (k : Nat) (c : UInt8) (h : s.data.toList[k]? = some c) : ∃ hk : k < s.size, s[k] = c := by
  have hk : k < s.size := by rw [Lib.size_eq]; exact (List.getElem?_eq_some_iff.1 h).1
  refine ⟨hk, ?_⟩
  have := byte_at s k hk
  rw [h] at this
  injection this with this
  exact this.symm
theorem runit0_any (g : Nat) (big : Bool) (s : ByteArray) (a b : UInt8) (t : List UInt8) (w : World) (hB : Box w g 73 [.bool big, .string s]) (hs : s.data.toList = a :: b :: t) (hsz : s.size ≤ 68719476735) : Calls Try.prog 43 #[.pointer (some ⟨g, 0, none⟩), .int .i64 0] w fun e w' => e = .returned (.int .i64 (M.unit16 big a b)) ∧ ∃ q, w.drewN q = w' := by
  have c0 := hB.cell 0 _ rfl
  have c1 := hB.cell 1 _ rfl
  obtain ⟨k0, h0⟩ := head_at s 0 a (by rw [hs]; rfl)
  obtain ⟨k1, h1⟩ := head_at s 1 b (by rw [hs]; rfl)
  clear hs
  go_enter Try.func43, Try.ntmps43
  go_wp2_with fail
  go_quiet ((go_at_call 51; exact quietL (unit_any _ _ _ _)))
  go_wp2_with fail
  go_ret
  exact ⟨rfl, _, rfl⟩
theorem high_any16 (n : Int) (h0 : 0 ≤ n) (h1 : n ≤ 65535) (w : World) : Calls Try.prog 44 #[.int .i64 n] w fun e w' => e = .returned (.bool (M.isHi n)) ∧ w = w' := by
  have H := Lib.hid (show M.isHi n = (n / 1024 == 54) by rw [M.isHi, Bool.eq_iff_iff, decide_eq_true_eq, beq_iff_eq]; omega)
  go_enter Try.func44, Try.ntmps44
  go_wp2_with fail
  go_ret
  rw [H.out]
  exact ⟨rfl, rfl⟩
theorem low_any16 (n : Int) (h0 : 0 ≤ n) (h1 : n ≤ 65535) (w : World) : Calls Try.prog 45 #[.int .i64 n] w fun e w' => e = .returned (.bool (M.isLo n)) ∧ w = w' := by
  have H := Lib.hid (show M.isLo n = (n / 1024 == 55) by rw [M.isLo, Bool.eq_iff_iff, decide_eq_true_eq, beq_iff_eq]; omega)
  go_enter Try.func45, Try.ntmps45
  go_wp2_with fail
  go_ret
  rw [H.out]
  exact ⟨rfl, rfl⟩
theorem runit2_any (g : Nat) (big : Bool) (s : ByteArray) (x y a b : UInt8) (t : List UInt8) (w : World) (hB : Box w g 73 [.bool big, .string s]) (hs : s.data.toList = x :: y :: a :: b :: t) (hsz : s.size ≤ 68719476735) : Calls Try.prog 43 #[.pointer (some ⟨g, 0, none⟩), .int .i64 2] w fun e w' => e = .returned (.int .i64 (M.unit16 big a b)) ∧ ∃ q, w.drewN q = w' := by
  have c0 := hB.cell 0 _ rfl
  have c1 := hB.cell 1 _ rfl
  obtain ⟨k0, h0⟩ := head_at s 2 a (by rw [hs]; rfl)
  obtain ⟨k1, h1⟩ := head_at s 3 b (by rw [hs]; rfl)
  clear hs
  go_enter Try.func43, Try.ntmps43
  go_wp2_with fail
  go_quiet ((go_at_call 51; exact quietL (unit_any _ _ _ _)))
  go_wp2_with fail
  go_ret
  exact ⟨rfl, _, rfl⟩
theorem runit0_to (g : Nat) (big : Bool) (s : ByteArray) (a b : UInt8) (t : List UInt8) (n : Int) (w : World) (hB : Box w g 73 [.bool big, .string s]) (hs : s.data.toList = a :: b :: t) (hn : M.unit16 big a b = n) (hsz : s.size ≤ 68719476735) : Calls Try.prog 43 #[.pointer (some ⟨g, 0, none⟩), .int .i64 0] w fun e w' => e = .returned (.int .i64 n) ∧ ∃ q, w.drewN q = w' := by
  have := runit0_any g big s a b t w hB hs hsz; rw [hn] at this; exact this
theorem runit2_to (g : Nat) (big : Bool) (s : ByteArray) (x y a b : UInt8) (t : List UInt8) (n : Int) (w : World) (hB : Box w g 73 [.bool big, .string s]) (hs : s.data.toList = x :: y :: a :: b :: t) (hn : M.unit16 big a b = n) (hsz : s.size ≤ 68719476735) : Calls Try.prog 43 #[.pointer (some ⟨g, 0, none⟩), .int .i64 2] w fun e w' => e = .returned (.int .i64 n) ∧ ∃ q, w.drewN q = w' := by
  have := runit2_any g big s x y a b t w hB hs hsz; rw [hn] at this; exact this
theorem high_to (n : Int) (b : Bool) (h : M.isHi n = b) (h0 : 0 ≤ n) (h1 : n ≤ 65535) (w : World) : Calls Try.prog 44 #[.int .i64 n] w fun e w' => e = .returned (.bool b) ∧ w = w' := by
  have := high_any16 n h0 h1 w; rw [h] at this; exact this
theorem low_to (n : Int) (b : Bool) (h : M.isLo n = b) (h0 : 0 ≤ n) (h1 : n ≤ 65535) (w : World) : Calls Try.prog 45 #[.int .i64 n] w fun e w' => e = .returned (.bool b) ∧ w = w' := by
  have := low_any16 n h0 h1 w; rw [h] at this; exact this
def cellLen (w : World) (a : Addr) : Nat := match w.cell? a with | some (.string s) => s.size | _ => 0
theorem cellLen_of {w : World} {a : Addr} {s : ByteArray} (h : w.cell? a = some (.string s)) : cellLen w a = s.size := by unfold cellLen; rw [h]
theorem told16_any (big : Bool) (s : ByteArray) (hs : s.size ≤ 68719476735) (w : World) : Calls Try.prog 38 #[.bool big, .string s] w fun e w' => ∃ v, e = .returned (.tuple #[v, .string ⟨(M.told16 big s.data.toList).2.toArray⟩]) ∧ Own w.heap.size 3 w' v ((M.told16 big s.data.toList).1.map (Value.int .i64)) ∧ Bel w w' := by
  go_enter Try.func38, Try.ntmps38
  go_wp2_with fail
  go_loopw [7] (fun v wr => ∃ (s' : ByteArray) (xs : List Int), Box wr w.heap.size 73 [.bool big, .string s'] ∧ xs.length + s'.size ≤ s.size ∧ Hid (M.told16 big s.data.toList = (xs ++ (M.told16 big s'.data.toList).1, (M.told16 big s'.data.toList).2)) ∧ Own (w.heap.size + 1) 3 wr v (xs.map (Value.int .i64)) ∧ Below w.heap.size w wr) (fun _ wr => cellLen wr ⟨w.heap.size, 1, none⟩)
  case atStart => exact ⟨s, [], Box.new _ _ _, by simp, Lib.hid (by simp), Own.nil _ _ _, (Below.refl _ _).alloc (Nat.le_refl _) _⟩
  case round =>
    obtain ⟨s', xs, hB, hle, HT, hown, hb⟩ := hrel
    have c0 := hB.cell 0 _ rfl
    have c1 := hB.cell 1 _ rfl
    have f1 := hB.frozen 1
    by_cases h2 : 2 ≤ s'.size
    · have hz : s'.data.toList.length = s'.size := (Lib.size_eq s').symm
      obtain ⟨a, b, t, hab⟩ : ∃ a b t, s'.data.toList = a :: b :: t := by
        match hq : s'.data.toList with
        | [] => rw [hq] at hz; simp at hz; omega
        | [a] => rw [hq] at hz; simp at hz; omega
        | a :: b :: t => exact ⟨a, b, t, rfl⟩
      have htl : s'.size = t.length + 2 := by rw [← hz, hab]; rfl
      obtain ⟨u0, u1⟩ := M.unit16_le big a b
      have HAB := Lib.hid hab
      rcases M.say16 big a b t with ⟨g1, e1⟩ | ⟨g1, g2, e1⟩ | ⟨c, d, u, rfl, g1, g2, e1⟩ | ⟨c, d, u, rfl, g1, g2, e1⟩
      · -- a unit by itself
        have HF := Lib.hid (show M.told16 big s.data.toList = ((xs ++ [M.one16 (M.unit16 big a b)]) ++ (M.told16 big (s'.extract 2 s'.size).data.toList).1, (M.told16 big (s'.extract 2 s'.size).data.toList).2) by
          rw [HT.out, drop_str, hab, e1]; simp)
        have HS := Lib.hid (drop_size s' 2)
        obtain ⟨n, hn⟩ : ∃ n, M.unit16 big a b = n := ⟨_, rfl⟩
        rw [hn] at g1 u0 u1 HF
        have HN := Lib.hid hn
        have HG := Lib.hid g1
        clear hz hab e1 g1 htl hn
        cases hlo : M.isLo n with
        | true =>
          have HL := Lib.hid hlo
          have HO := Lib.hid (show M.one16 n = 65533 by rw [M.one16, if_pos hlo])
          clear hlo
          rw [HO.out] at HF
          go_wp2_with fail
          refine (runit0_to _ big s' a b t n _ hB HAB.out HN.out (by omega)).mono ?_
          rintro e w1 ⟨rfl, q, rfl⟩
          have hsz : w.heap.size + 1 ≤ (wr.drewN q).heap.size := hB.lt
          go_wp2_with (first | (go_at_call 44; refine (high_to n false HG.out u0 u1 _).mono ?_; rintro e w' ⟨rfl, rfl⟩) | (go_at_call 45; refine (low_to n true HL.out u0 u1 _).mono ?_; rintro e w' ⟨rfl, rfl⟩) | ((at_builtin; refine wpList_app rfl (.tmp 61) (.tmp 63) 24 rfl elemInt (by decide) (w.heap.size + 1) _ _ _ rfl rfl (hown.drewN q) rfl (by simp; omega) (by first | exact Nat.le_refl _ | assumption | (have := hb.size; omega)) ?_; intro v' w1 hown' hb1); have hB1 := (hB.drewN q).upto hb1 (Nat.lt_succ_self _); have d1 := hB1.cell 1 _ rfl; have d2 := hB1.frozen 1))
          go_roundw
          case rel => exact ⟨_, xs ++ [65533], hB1.set 1 _, by rw [HS.out, List.length_append, List.length_singleton]; omega, HF, by rw [List.map_append]; exact hown'.setCell (by simp) _, bel_store (Bel.drewN hb q) hb1 (Nat.le_succ _) (Nat.le_refl _) _⟩
          case measure => rw [cellLen_of c1, cellLen_of ((hB1.set 1 _).cell 1 _ rfl), HS.out]; omega
        | false =>
          have HL := Lib.hid hlo
          have HO := Lib.hid (show M.one16 n = n by rw [M.one16, if_neg (by rw [hlo]; decide)])
          clear hlo
          rw [HO.out] at HF
          go_wp2_with fail
          refine (runit0_to _ big s' a b t n _ hB HAB.out HN.out (by omega)).mono ?_
          rintro e w1 ⟨rfl, q, rfl⟩
          have hsz : w.heap.size + 1 ≤ (wr.drewN q).heap.size := hB.lt
          go_wp2_with (first | (go_at_call 44; refine (high_to n false HG.out u0 u1 _).mono ?_; rintro e w' ⟨rfl, rfl⟩) | (go_at_call 45; refine (low_to n false HL.out u0 u1 _).mono ?_; rintro e w' ⟨rfl, rfl⟩) | ((at_builtin; refine wpList_app rfl (.tmp 61) (.tmp 63) 24 rfl elemInt (by decide) (w.heap.size + 1) _ _ _ rfl rfl (hown.drewN q) rfl (by simp; omega) (by first | exact Nat.le_refl _ | assumption | (have := hb.size; omega)) ?_; intro v' w1 hown' hb1); have hB1 := (hB.drewN q).upto hb1 (Nat.lt_succ_self _); have d1 := hB1.cell 1 _ rfl; have d2 := hB1.frozen 1))
          go_roundw
          case rel => exact ⟨_, xs ++ [n], hB1.set 1 _, by rw [HS.out, List.length_append, List.length_singleton]; omega, HF, by rw [List.map_append]; exact hown'.setCell (by simp) _, bel_store (Bel.drewN hb q) hb1 (Nat.le_succ _) (Nat.le_refl _) _⟩
          case measure => rw [cellLen_of c1, cellLen_of ((hB1.set 1 _).cell 1 _ rfl), HS.out]; omega
      · -- more must come
        have HF := Lib.hid (show M.told16 big s.data.toList = (xs, s'.data.toList) by
          rw [HT.out, hab, e1]; simp)
        obtain ⟨n, hn⟩ : ∃ n, M.unit16 big a b = n := ⟨_, rfl⟩
        rw [hn] at g1 u0 u1
        have HN := Lib.hid hn
        have HG := Lib.hid g1
        have h4 : s'.size < 4 := by omega
        clear hz hab e1 g1 htl hn
        go_wp2_with fail
        refine (runit0_to _ big s' a b t n _ hB HAB.out HN.out (by omega)).mono ?_
        rintro e w1 ⟨rfl, q, rfl⟩
        go_wp2_with (first | (go_at_call 44; refine (high_to n true HG.out u0 u1 _).mono ?_; rintro e w' ⟨rfl, rfl⟩))
        go_quiet (fail)
        go_wp2_with fail
        go_ret2
        rw [HF.out]
        exact ⟨_, by rw [str_eq]; rfl, ((hown.mono (by omega)).drewN _).drewN _, Bel.drewN (Bel.drewN hb _) _⟩
      · -- two units
        have HF := Lib.hid (show M.told16 big s.data.toList = ((xs ++ [M.pair16 (M.unit16 big a b) (M.unit16 big c d)]) ++ (M.told16 big (s'.extract 4 s'.size).data.toList).1, (M.told16 big (s'.extract 4 s'.size).data.toList).2) by
          rw [HT.out, drop_str, hab, e1]; simp)
        have HS := Lib.hid (drop_size s' 4)
        obtain ⟨v0, v1⟩ := M.unit16_le big c d
        obtain ⟨n, hn⟩ : ∃ n, M.unit16 big a b = n := ⟨_, rfl⟩
        obtain ⟨m, hm⟩ : ∃ m, M.unit16 big c d = m := ⟨_, rfl⟩
        rw [hn] at g1 u0 u1 HF
        rw [hm] at g2 v0 v1 HF
        have g1' := g1
        have g2' := g2
        simp only [M.isHi, decide_eq_true_eq] at g1'
        simp only [M.isLo, decide_eq_true_eq] at g2'
        have HN := Lib.hid hn
        have HM := Lib.hid hm
        have HG := Lib.hid g1
        have HL := Lib.hid g2
        have HP := Lib.hid (show M.pair16 n m = 65536 + (n - 55296) * 1024 + m - 56320 by rw [M.pair16]; omega)
        have h4 : 4 ≤ s'.size := by simp only [List.length_cons] at htl; omega
        clear hz hab e1 g1 g2 htl hn hm
        rw [HP.out] at HF
        go_wp2_with fail
        refine (runit0_to _ big s' a b (c :: d :: u) n _ hB HAB.out HN.out (by omega)).mono ?_
        rintro e w1 ⟨rfl, q, rfl⟩
        go_wp2_with (first | (go_at_call 44; refine (high_to n true HG.out u0 u1 _).mono ?_; rintro e w' ⟨rfl, rfl⟩))
        refine (runit2_to _ big s' a b c d u m _ (hB.drewN q) HAB.out HM.out (by omega)).mono ?_
        rintro e w1 ⟨rfl, q2, rfl⟩
        go_wp2_with (first | (go_at_call 45; refine (low_to m true HL.out v0 v1 _).mono ?_; rintro e w' ⟨rfl, rfl⟩))
        refine (runit2_to _ big s' a b c d u m _ (hB.drewN _) HAB.out HM.out (by omega)).mono ?_
        rintro e w1 ⟨rfl, q3, rfl⟩
        have hsz : ∀ k, w.heap.size + 1 ≤ (wr.drewN k).heap.size := fun _ => hB.lt
        go_wp2_with (first | fail | (at_builtin; refine wpList_app rfl (.tmp 61) (.tmp 63) 24 rfl elemInt (by decide) (w.heap.size + 1) _ _ _ rfl rfl (hown.drewN _) rfl (by simp; omega) (hsz _) ?_; intro v' w1 hown' hb1; have hB1 := (hB.drewN _).upto hb1 (Nat.lt_succ_self _); have d1 := hB1.cell 1 _ rfl; have d2 := hB1.frozen 1))
        go_roundw
        case rel => exact ⟨_, xs ++ [65536 + (n - 55296) * 1024 + m - 56320], hB1.set 1 _, by rw [HS.out, List.length_append, List.length_singleton]; omega, HF, by rw [List.map_append]; exact hown'.setCell (by simp) _, bel_store (Bel.drewN hb _) hb1 (Nat.le_succ _) (Nat.le_refl _) _⟩
        case measure => rw [cellLen_of c1, cellLen_of ((hB1.set 1 _).cell 1 _ rfl), HS.out]; omega
      · -- the first one alone
        have HF := Lib.hid (show M.told16 big s.data.toList = ((xs ++ [65533]) ++ (M.told16 big (s'.extract 2 s'.size).data.toList).1, (M.told16 big (s'.extract 2 s'.size).data.toList).2) by
          rw [HT.out, drop_str, hab, e1]; simp)
        have HS := Lib.hid (drop_size s' 2)
        obtain ⟨v0, v1⟩ := M.unit16_le big c d
        obtain ⟨n, hn⟩ : ∃ n, M.unit16 big a b = n := ⟨_, rfl⟩
        obtain ⟨m, hm⟩ : ∃ m, M.unit16 big c d = m := ⟨_, rfl⟩
        rw [hn] at g1 u0 u1
        rw [hm] at g2 v0 v1
        have HN := Lib.hid hn
        have HM := Lib.hid hm
        have HG := Lib.hid g1
        have HL := Lib.hid g2
        have h4 : 4 ≤ s'.size := by simp only [List.length_cons] at htl; omega
        clear hz hab e1 g1 g2 htl hn hm
        go_wp2_with fail
        refine (runit0_to _ big s' a b (c :: d :: u) n _ hB HAB.out HN.out (by omega)).mono ?_
        rintro e w1 ⟨rfl, q, rfl⟩
        go_wp2_with (first | (go_at_call 44; refine (high_to n true HG.out u0 u1 _).mono ?_; rintro e w' ⟨rfl, rfl⟩))
        refine (runit2_to _ big s' a b c d u m _ (hB.drewN q) HAB.out HM.out (by omega)).mono ?_
        rintro e w1 ⟨rfl, q2, rfl⟩
        have hsz : ∀ k, w.heap.size + 1 ≤ (wr.drewN k).heap.size := fun _ => hB.lt
        go_wp2_with (first | (go_at_call_of 45 (Value.int .i64 m); refine (low_to m false HL.out v0 v1 _).mono ?_; rintro e w' ⟨rfl, rfl⟩) | (go_at_call 44; refine (high_to n true HG.out u0 u1 _).mono ?_; rintro e w' ⟨rfl, rfl⟩) | (at_builtin; refine wpList_app rfl (.tmp 61) (.tmp 63) 24 rfl elemInt (by decide) (w.heap.size + 1) _ _ _ rfl rfl (hown.drewN _) rfl (by simp; omega) (hsz _) ?_; intro v' w1 hown' hb1; have hB1 := (hB.drewN _).upto hb1 (Nat.lt_succ_self _); have d1 := hB1.cell 1 _ rfl; have d2 := hB1.frozen 1))
        go_roundw
        case rel => exact ⟨_, xs ++ [65533], hB1.set 1 _, by rw [HS.out, List.length_append, List.length_singleton]; omega, HF, by rw [List.map_append]; exact hown'.setCell (by simp) _, bel_store (Bel.drewN hb _) hb1 (Nat.le_succ _) (Nat.le_refl _) _⟩
        case measure => rw [cellLen_of c1, cellLen_of ((hB1.set 1 _).cell 1 _ rfl), HS.out]; omega
    · have HF := Lib.hid (show M.told16 big s.data.toList = (xs, s'.data.toList) by
        have hl : s'.data.toList.length ≤ 1 := by rw [← Lib.size_eq]; omega
        rw [HT.out]
        match hq : s'.data.toList, hl with
        | [], _ => rw [M.told16_nil]; simp
        | [a], _ => rw [M.told16_one]; simp
        | _ :: _ :: _, hl => simp at hl)
      go_wp2_with fail
      go_quiet (fail)
      go_wp2_with fail
      go_ret2
      rw [HF.out]
      exact ⟨_, by rw [str_eq]; rfl, (hown.mono (by omega)).drewN _, Bel.drewN hb _⟩
end Go.Proofs.Ytcgdecpjlggekaa

/-
  Package utf8: what Scalar, Points, Bytes, Encode compute.
-/
namespace Go.Proofs.Ytcgdecpjlggekaa
open Go.RowKit
set_option maxRecDepth 1000000

def IdxSays (xs : List Int) (n : Int) : Prop := 0 ≤ n ↔ xs.all M.scalar = false
theorem points_scalars (xs : List Int) (h : M.points xs = 0) : xs.length ≤ 3000 ∧ ∀ n ∈ xs, M.scalar n = true := by
  unfold M.points at h
  split at h
  · cases h
  · split at h
    · rename_i hs
      exact ⟨by omega, List.all_eq_true.1 hs⟩
    · cases h
theorem scalar_bounds (n : Int) (h : M.scalar n = true) : 0 ≤ n ∧ n ≤ 1114111 ∧ (n < 55296 ∨ 57343 < n) := by simpa [M.scalar] using h
end Go.Proofs.Ytcgdecpjlggekaa

/-
  Package utf16: what All, Decode, Encode compute.
-/
namespace Go.Proofs.Ytcgdecpjlggekaa
open Go.RowKit
set_option maxRecDepth 1000000

theorem told16_to (big : Bool) (s : ByteArray) (xs : List Int) (l : List UInt8) (h : M.told16 big s.data.toList = (xs, l)) (hs : s.size ≤ 68719476735) (w : World) : Calls Try.prog 38 #[.bool big, .string s] w fun e w' => ∃ v, e = .returned (.tuple #[v, .string ⟨l.toArray⟩]) ∧ Own w.heap.size 3 w' v (xs.map (Value.int .i64)) ∧ Bel w w' := by
  have := told16_any big s hs w; rw [h] at this; exact this
theorem all16_any (big : Bool) (s : ByteArray) (hs : s.size ≤ 68719476734) (w : World) : Calls Try.prog 29 #[.bool big, .string s] w fun e w' => ∃ v, e = .returned v ∧ Own w.heap.size 3 w' v ((M.all16 big s.data.toList).map (Value.int .i64)) ∧ Bel w w' := by
  obtain ⟨⟨xs, l⟩, ht⟩ : ∃ r, M.told16 big s.data.toList = r := ⟨_, rfl⟩
  have hlen := (M.told16_len big _ s.data.toList (Nat.le_refl _)).1
  rw [ht, ← Lib.size_eq] at hlen
  have Ht := Lib.hid ht
  by_cases he : l = []
  · subst he
    have HA := Lib.hid (show M.all16 big s.data.toList = xs by rw [M.all16, ht, if_pos rfl])
    clear ht hlen
    go_enter Try.func29, Try.ntmps29
    go_wp2_with (go_at_call 38; refine (told16_to _ _ _ _ Ht.out (by omega) _).mono ?_; rintro e w' ⟨v, rfl, ho, hb⟩)
    go_ret
    rw [HA.out]
    exact ⟨_, rfl, by assumption, by assumption⟩
  · have HA := Lib.hid (show M.all16 big s.data.toList = xs ++ [65533] by rw [M.all16, ht, if_neg he])
    have e1 : (!l.isEmpty) = true := by simpa using he
    have hl2 : xs.length ≤ s.size := by simp only at hlen; omega
    clear ht hlen he
    go_enter Try.func29, Try.ntmps29
    go_wp2_with (first | (go_at_call 38; refine (told16_to _ _ _ _ Ht.out (by omega) _).mono ?_; rintro e w' ⟨v, rfl, ho, hb⟩; have hB := hb.size) | (at_builtin; refine wpList_app rfl (.tmp 15) (.tmp 16) 24 rfl elemInt (by decide) w.heap.size _ _ _ rfl rfl ho rfl (by simp; omega) (by first | exact Nat.le_refl _ | assumption | (have := hb.size; omega)) ?_; intro v' w1 hown' hb1))
    go_ret
    rw [HA.out]
    exact ⟨_, rfl, by rw [List.map_append]; exact hown', hb.upto hb1 (Nat.le_refl _)⟩
end Go.Proofs.Ytcgdecpjlggekaa

/-
  Plain laws on encodings of a byte a sign.
-/
namespace Go.Proofs.Ytcgdecpjlggekaa.M
open Go
theorem idx_found (xs : List Int) (n : Int) (k : Nat) (h : xs[k]? = some n) (hno : ∀ j, j < k → xs[j]? ≠ some n) : idx xs n = k := by
  have : xs.findIdx? (fun x => x == n) = some k := by
    rw [List.findIdx?_eq_some_iff_getElem]
    obtain ⟨hk, he⟩ := List.getElem?_eq_some_iff.1 h
    refine ⟨hk, by simp [he], fun j hj => ?_⟩
    have hjl : j < xs.length := by omega
    have := hno j hj
    rw [List.getElem?_eq_getElem hjl] at this
    simpa using this
  rw [idx, this]
theorem idx_none (xs : List Int) (n : Int) (hno : ∀ j, j < xs.length → xs[j]? ≠ some n) : idx xs n = -1 := by
  have : xs.findIdx? (fun x => x == n) = none := by
    rw [List.findIdx?_eq_none_iff]
    intro x hx
    obtain ⟨j, hj, rfl⟩ := List.getElem_of_mem hx
    have := hno j hj
    rw [List.getElem?_eq_getElem hj] at this
    simpa using this
  rw [idx, this]
theorem idx_cases (xs : List Int) (n : Int) : (idx xs n = -1 ∧ ∀ j, j < xs.length → xs[j]? ≠ some n) ∨ ∃ k : Nat, idx xs n = k ∧ xs[k]? = some n ∧ ∀ j, j < k → xs[j]? ≠ some n := by
  by_cases h : ∃ k : Nat, xs[k]? = some n
  · have h2 : ∃ k : Nat, xs[k]? = some n ∧ ∀ j, j < k → xs[j]? ≠ some n := by
      obtain ⟨k, hk⟩ := h
      induction k using Nat.strongRecOn with
      | _ k ih =>
        by_cases h3 : ∃ j : Nat, j < k ∧ xs[j]? = some n
        · obtain ⟨j, hj, hh⟩ := h3
          exact ih j hj hh
        · exact ⟨k, hk, fun j hj hh => h3 ⟨j, hj, hh⟩⟩
    obtain ⟨k, hk, hno⟩ := h2
    exact .inr ⟨k, idx_found xs n k hk hno, hk, hno⟩
  · have hno : ∀ j, j < xs.length → xs[j]? ≠ some n := fun j _ hh => h ⟨j, hh⟩
    exact .inl ⟨idx_none xs n hno, hno⟩
end Go.Proofs.Ytcgdecpjlggekaa.M

/-
  The map from code points to bytes that an encoder fills.
-/
namespace Go.Proofs.Ytcgdecpjlggekaa.M
open Go
theorem table_nodup : ∀ user, (tableOf user).Nodup := by decide +kernel
theorem pointOf_inj (user : Bool) (i j : Nat) (hi : i < 256) (hj : j < 256) (h : pointOf user i = pointOf user j) : i = j := by
  have hl : (tableOf user).length = 256 := by simp [tableOf]
  have h1 : (tableOf user)[i]'(by omega) = (tableOf user)[j]'(by omega) := by simpa [tableOf] using h
  exact (List.getElem_inj (table_nodup user)).1 h1
def Dk (user : Bool) : Nat → DataW Unit
  | 0 => .map []
  | k + 1 => (Dk user k).put (.int .i64 (pointOf user k)) (.lit (.int .i64 (k : Int)))
theorem key (n : Int) : WideAt.IsKeyLit (.int .i64 n) := by simp [WideAt.IsKeyLit]
theorem Dk_isMap (user : Bool) (k : Nat) : Maps.IsMap (Dk user k) := by
  cases k with
  | zero => exact Maps.isMap_empty
  | succ k => 
    induction k with
    | zero => exact Maps.isMap_empty.put _ _
    | succ k ih => exact ih.put _ _
theorem Dk_miss (user : Bool) (n : Int) : ∀ k, (∀ j, j < k → pointOf user j ≠ n) → Maps.has (Dk user k) (.int .i64 n) = false
  | 0, _ => rfl
  | k + 1, h => by
    rw [Dk, Maps.has_put_other (by intro e; injection e with _ e; exact h k (by omega) e.symm)]
    exact Dk_miss user n k (fun j hj => h j (by omega))
theorem Dk_hit (user : Bool) (n : Int) (j : Nat) (hn : pointOf user j = n) : ∀ k, k ≤ 256 → j < k → Maps.has (Dk user k) (.int .i64 n) = true ∧ ∀ z, (Dk user k).atKey (.int .i64 n) z = .lit (.int .i64 (j : Int))
  | 0, _, h => by omega
  | k + 1, hk, h => by
    by_cases e : j = k
    · subst e
      subst hn
      rw [Dk]
      exact ⟨Maps.has_put_same (Dk_isMap user _) (key _) _, fun z => Maps.atKey_put_same (Dk_isMap user _) (key _) _ z⟩
    · have hne : (Lit.int .i64 n) ≠ .int .i64 (pointOf user k) := by
        intro e2; injection e2 with _ e2
        exact e (pointOf_inj user j k (by omega) (by omega) (hn.trans e2))
      obtain ⟨h1, h2⟩ := Dk_hit user n j hn k (by omega) (by omega)
      rw [Dk]
      exact ⟨by rw [Maps.has_put_other hne]; exact h1, fun z => by rw [Maps.atKey_put_other hne]; exact h2 z⟩
/-- What a code point's byte is, and that there is one. -/
theorem byteOf_cases (user : Bool) (n : Int) : (byteOf user n = -1 ∧ ∀ j, j < 256 → pointOf user j ≠ n) ∨ ∃ j : Nat, j < 256 ∧ byteOf user n = j ∧ pointOf user j = n := by
  have hl : (tableOf user).length = 256 := by simp [tableOf]
  have ht : ∀ k, k < 256 → (tableOf user)[k]? = some (pointOf user k) := fun k hk => by simp [tableOf, hk]
  rcases idx_cases (tableOf user) n with ⟨h1, h2⟩ | ⟨k, h1, h2, _⟩
  · exact .inl ⟨h1, fun j hj e => h2 j (by omega) (by rw [ht j hj, e])⟩
  · have hk : k < 256 := by
      have := (List.getElem?_eq_some_iff.1 h2).1
      omega
    rw [ht k hk] at h2
    injection h2 with h2
    exact .inr ⟨k, hk, h1, h2⟩
theorem encodeS_append (user : Bool) (l m : List Int) : encodeS user (l ++ m) = match encodeS user l, encodeS user m with | some a, some b => some (a ++ b) | _, _ => none := by
  induction l with
  | nil => simp only [List.nil_append, encodeS]; cases encodeS user m <;> simp
  | cons n l ih =>
    simp only [List.cons_append, encodeS]
    split
    · rfl
    · rw [ih]
      cases encodeS user l <;> cases encodeS user m <;> simp
theorem encodeS_hit (user : Bool) (xs : List Int) (k : Nat) (n : Int) (j : Nat) (l : Bs) (hx : xs[k]? = some n) (hb : byteOf user n = j) (h : encodeS user (xs.take k) = some l) : encodeS user (xs.take (k + 1)) = some (l ++ [UInt8.ofNat j]) := by
  rw [List.take_add_one, hx, encodeS_append, h]
  have : ¬ ((j : Int) < 0) := by omega
  simp [encodeS, hb, this]
theorem encodeS_miss (user : Bool) (xs : List Int) (k : Nat) (n : Int) (hx : xs[k]? = some n) (hb : byteOf user n = -1) : encodeS user xs = none := by
  have hk := (List.getElem?_eq_some_iff.1 hx).1
  have : xs = xs.take k ++ (n :: xs.drop (k + 1)) := by
    have h2 : xs[k] = n := (List.getElem?_eq_some_iff.1 hx).2
    rw [← h2, ← List.drop_eq_getElem_cons hk, List.take_append_drop]
  rw [this, encodeS_append]
  simp [encodeS, hb]
theorem rawS_cases (user : Bool) (xs : List Int) : rawS user xs = ([], 5) ∨ ∃ l, rawS user xs = (l, 0) := by
  unfold rawS
  cases encodeS user xs with
  | none => exact .inl rfl
  | some l => exact .inr ⟨l, rfl⟩
theorem byteOf_point (user : Bool) (k : Nat) (hk : k < 256) : byteOf user (pointOf user k) = k := by
  rcases byteOf_cases user (pointOf user k) with ⟨_, h⟩ | ⟨j, hj, h, hp⟩
  · exact absurd rfl (h k hk)
  · rw [h, pointOf_inj user j k hj hk hp]
theorem encodeS_decodeS (user : Bool) (l : Bs) : encodeS user (decodeS user l) = some l := by
  induction l with
  | nil => rfl
  | cons c t ih =>
    have hc : c.toNat < 256 := c.toNat_lt
    show encodeS user (pointOf user c.toNat :: decodeS user t) = _
    rw [encodeS, byteOf_point user c.toNat hc, if_neg (by omega), ih]
    simp
theorem encode_decode (user : Bool) (l : Bs) (h : l.length ≤ 3000) : encS user (decodeS user l) = (l, 0) := by
  rw [encS, if_neg (by rw [decodeS, List.length_map]; omega), rawS, encodeS_decodeS]
end Go.Proofs.Ytcgdecpjlggekaa.M

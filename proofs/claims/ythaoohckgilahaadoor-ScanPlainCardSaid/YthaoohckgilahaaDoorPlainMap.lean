/-
  The map from code points to bytes that an encoder fills.
-/
import Derived.Test.YthaoohckgilahaaDoorPlainSingle
import Derived.Maps.Views
namespace Go.Proofs.YthaoohckgilahaaDoor.M
open Go
theorem table_nodup : ∀ user, (tableOf user).Nodup := by decide +kernel
theorem pointOf_inj (user : Bool) (i j : Nat) (hi : i < 256) (hj : j < 256) (h : pointOf user i = pointOf user j) : i = j := by
  have hl : (tableOf user).length = 256 := by simp [tableOf]
  have h1 : (tableOf user)[i]'(by omega) = (tableOf user)[j]'(by omega) := by simpa [tableOf] using h
  exact (List.getElem_inj (table_nodup user)).1 h1
def Dk (user : Bool) : Nat → DataW Unit
  | 0 => .map []
  | k + 1 => (Dk user k).put (.int .i64 (pointOf user k)) (.lit (.int .i64 (k : Int)))
theorem key (n : Int) : WideAt.IsKeyLit (.int .i64 n) := by simp [WideAt.IsKeyLit]
theorem Dk_isMap (user : Bool) (k : Nat) : Maps.IsMap (Dk user k) := by
  cases k with
  | zero => exact Maps.isMap_empty
  | succ k => 
    induction k with
    | zero => exact Maps.isMap_empty.put _ _
    | succ k ih => exact ih.put _ _
theorem Dk_miss (user : Bool) (n : Int) : ∀ k, (∀ j, j < k → pointOf user j ≠ n) → Maps.has (Dk user k) (.int .i64 n) = false
  | 0, _ => rfl
  | k + 1, h => by
    rw [Dk, Maps.has_put_other (by intro e; injection e with _ e; exact h k (by omega) e.symm)]
    exact Dk_miss user n k (fun j hj => h j (by omega))
theorem Dk_hit (user : Bool) (n : Int) (j : Nat) (hn : pointOf user j = n) : ∀ k, k ≤ 256 → j < k → Maps.has (Dk user k) (.int .i64 n) = true ∧ ∀ z, (Dk user k).atKey (.int .i64 n) z = .lit (.int .i64 (j : Int))
  | 0, _, h => by omega
  | k + 1, hk, h => by
    by_cases e : j = k
    · subst e
      subst hn
      rw [Dk]
      exact ⟨Maps.has_put_same (Dk_isMap user _) (key _) _, fun z => Maps.atKey_put_same (Dk_isMap user _) (key _) _ z⟩
    · have hne : (Lit.int .i64 n) ≠ .int .i64 (pointOf user k) := by
        intro e2; injection e2 with _ e2
        exact e (pointOf_inj user j k (by omega) (by omega) (hn.trans e2))
      obtain ⟨h1, h2⟩ := Dk_hit user n j hn k (by omega) (by omega)
      rw [Dk]
      exact ⟨by rw [Maps.has_put_other hne]; exact h1, fun z => by rw [Maps.atKey_put_other hne]; exact h2 z⟩
/-- What a code point's byte is, and that there is one. -/
theorem byteOf_cases (user : Bool) (n : Int) : (byteOf user n = -1 ∧ ∀ j, j < 256 → pointOf user j ≠ n) ∨ ∃ j : Nat, j < 256 ∧ byteOf user n = j ∧ pointOf user j = n := by
  have hl : (tableOf user).length = 256 := by simp [tableOf]
  have ht : ∀ k, k < 256 → (tableOf user)[k]? = some (pointOf user k) := fun k hk => by simp [tableOf, hk]
  rcases idx_cases (tableOf user) n with ⟨h1, h2⟩ | ⟨k, h1, h2, _⟩
  · exact .inl ⟨h1, fun j hj e => h2 j (by omega) (by rw [ht j hj, e])⟩
  · have hk : k < 256 := by
      have := (List.getElem?_eq_some_iff.1 h2).1
      omega
    rw [ht k hk] at h2
    injection h2 with h2
    exact .inr ⟨k, hk, h1, h2⟩
theorem encodeS_append (user : Bool) (l m : List Int) : encodeS user (l ++ m) = match encodeS user l, encodeS user m with | some a, some b => some (a ++ b) | _, _ => none := by
  induction l with
  | nil => simp only [List.nil_append, encodeS]; cases encodeS user m <;> simp
  | cons n l ih =>
    simp only [List.cons_append, encodeS]
    split
    · rfl
    · rw [ih]
      cases encodeS user l <;> cases encodeS user m <;> simp
theorem encodeS_hit (user : Bool) (xs : List Int) (k : Nat) (n : Int) (j : Nat) (l : Bs) (hx : xs[k]? = some n) (hb : byteOf user n = j) (h : encodeS user (xs.take k) = some l) : encodeS user (xs.take (k + 1)) = some (l ++ [UInt8.ofNat j]) := by
  rw [List.take_add_one, hx, encodeS_append, h]
  have : ¬ ((j : Int) < 0) := by omega
  simp [encodeS, hb, this]
theorem encodeS_miss (user : Bool) (xs : List Int) (k : Nat) (n : Int) (hx : xs[k]? = some n) (hb : byteOf user n = -1) : encodeS user xs = none := by
  have hk := (List.getElem?_eq_some_iff.1 hx).1
  have : xs = xs.take k ++ (n :: xs.drop (k + 1)) := by
    have h2 : xs[k] = n := (List.getElem?_eq_some_iff.1 hx).2
    rw [← h2, ← List.drop_eq_getElem_cons hk, List.take_append_drop]
  rw [this, encodeS_append]
  simp [encodeS, hb]
theorem rawS_cases (user : Bool) (xs : List Int) : rawS user xs = ([], 5) ∨ ∃ l, rawS user xs = (l, 0) := by
  unfold rawS
  cases encodeS user xs with
  | none => exact .inl rfl
  | some l => exact .inr ⟨l, rfl⟩
theorem byteOf_point (user : Bool) (k : Nat) (hk : k < 256) : byteOf user (pointOf user k) = k := by
  rcases byteOf_cases user (pointOf user k) with ⟨_, h⟩ | ⟨j, hj, h, hp⟩
  · exact absurd rfl (h k hk)
  · rw [h, pointOf_inj user j k hj hk hp]
theorem encodeS_decodeS (user : Bool) (l : Bs) : encodeS user (decodeS user l) = some l := by
  induction l with
  | nil => rfl
  | cons c t ih =>
    have hc : c.toNat < 256 := c.toNat_lt
    show encodeS user (pointOf user c.toNat :: decodeS user t) = _
    rw [encodeS, byteOf_point user c.toNat hc, if_neg (by omega), ih]
    simp
theorem encode_decode (user : Bool) (l : Bs) (h : l.length ≤ 3000) : encS user (decodeS user l) = (l, 0) := by
  rw [encS, if_neg (by rw [decodeS, List.length_map]; omega), rawS, encodeS_decodeS]
end Go.Proofs.YthaoohckgilahaaDoor.M

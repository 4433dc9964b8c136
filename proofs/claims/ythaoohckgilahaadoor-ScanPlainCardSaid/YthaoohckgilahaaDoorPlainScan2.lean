/-
  What a scan needs of attributes and of first bytes, in plain laws.
-/
import Derived.Test.YthaoohckgilahaaDoorPlainScan
namespace Go.Proofs.YthaoohckgilahaaDoor.M
open Go

theorem quotedA_val (q : UInt8) (t v : Bs) (h : (quotedA q t).1 = some v) : v.length ≤ t.length := by
  unfold quotedA at h
  split at h
  · cases h
  · injection h with h
    subst h
    exact (List.takeWhile_prefix (fun c => c != q) (l := t)).length_le
theorem valueA_val (l v : Bs) (h : (valueA l).1 = some v) : v.length ≤ l.length := by
  have h0 := (suf_dropWhile white l).len
  unfold valueA at h
  split at h
  · injection h with h
    subst h
    exact Nat.zero_le _
  · rename_i q t ht
    rw [ht, List.length_cons] at h0
    split at h
    · have := quotedA_val q t v h
      omega
    · injection h with h
      subst h
      have := (List.takeWhile_prefix valB (l := q :: t)).length_le
      rw [List.length_cons] at this
      omega
theorem nextA_val (l : Bs) (p : Bs × Bs) (r : Bs) (h : nextA l = (some p, r)) : p.2.length ≤ l.length := by
  have h0 := (suf_dropWhile skipB l).len
  unfold nextA at h
  split at h
  · cases h
  · rename_i c t hc
    rw [hc, List.length_cons] at h0
    split at h
    · cases h
    · have h2 := (suf_dropWhile white (t.dropWhile nameB)).len
      have h3 := (suf_dropWhile nameB t).len
      unfold afterA at h
      split at h
      · injection h with h _
        injection h with h
        subst h
        exact Nat.zero_le _
      · rename_i e u he
        rw [he, List.length_cons] at h2
        split at h
        · injection h with h _
          cases hv : (valueA u).1 with
          | none => rw [hv] at h; cases h
          | some v =>
            rw [hv] at h
            injection h with h
            subst h
            have := valueA_val u v hv
            show (fold v).length ≤ _
            rw [fold_len]
            omega
        · injection h with h _
          injection h with h
          subst h
          exact Nat.zero_le _
theorem attrsA_val : ∀ (k : Nat) (l : Bs), l.length ≤ k → ∀ p ∈ (attrsA l).1, p.2.length ≤ l.length
  | k, l, h => by
    cases hn : nextA l with
    | mk o r =>
      cases o with
      | none => rw [attrsA_none l r hn]; intro p hp; cases hp
      | some a =>
        have hl := nextA_less l a (by rw [hn])
        rw [hn] at hl
        simp only at hl
        match k, h with
        | 0, h => omega
        | k + 1, h =>
          have ih := attrsA_val k r (by omega)
          rw [attrsA_some l a r hn]
          intro p hp
          rcases List.mem_cons.1 hp with rfl | hp
          · exact nextA_val l _ r hn
          · have := ih p hp; omega
theorem fold1_eq (x : UInt8) (hx : x.toNat < 65 ∨ (90 < x.toNat ∧ x.toNat < 97)) (c : UInt8) : fold1 c = x ↔ c = x := by
  rw [← UInt8.toNat_inj, ← UInt8.toNat_inj, fold1_nat]
  split <;> omega
theorem pre2_fold (x : UInt8) (hx : x.toNat < 65 ∨ (90 < x.toNat ∧ x.toNat < 97)) (l : Bs) : Lib.hasPrefix (fold l) [60, x] = Lib.hasPrefix l [60, x] := by
  have e1 := fold1_eq 60 (.inl (by decide))
  have e2 := fold1_eq x hx
  match l with
  | [] => rfl
  | [c] =>
    show ((60 == fold1 c) && false) = ((60 == c) && false)
    rw [Bool.and_false, Bool.and_false]
  | c :: d :: t =>
    show ((60 == fold1 c) && ((x == fold1 d) && true)) = ((60 == c) && ((x == d) && true))
    have a1 : (60 == fold1 c) = (60 == c) := by rw [Bool.eq_iff_iff, beq_iff_eq, beq_iff_eq]; exact ⟨fun h => ((e1 c).1 h.symm).symm, fun h => ((e1 c).2 h.symm).symm⟩
    have a2 : (x == fold1 d) = (x == d) := by rw [Bool.eq_iff_iff, beq_iff_eq, beq_iff_eq]; exact ⟨fun h => ((e2 d).1 h.symm).symm, fun h => ((e2 d).2 h.symm).symm⟩
    rw [a1, a2]
theorem nameEnd_suf (l e : Bs) (h : nameEnd l = some e) : Suf e l := by
  unfold nameEnd at h
  split at h
  · split at h
    · injection h with h
      subst h
      exact suf_dropWhile _ _
    · cases h
  · cases h
end Go.Proofs.YthaoohckgilahaaDoor.M

/-
  Attributes that are written plainly; a label behind charset=.
-/
import Derived.Test.YthaoohckgilahaaDoorPlainScan
namespace Go.Proofs.YthaoohckgilahaaDoor.M
open Go

theorem nextA_skip (x : UInt8) (l : Bs) (h : skipB x = true) : nextA (x :: l) = nextA l := by
  unfold nextA
  rw [List.dropWhile_cons, if_pos h]
theorem nextA_name (name : Bs) (e : UInt8) (t : Bs) (hv : name.all plainB = true) (hn : name ≠ []) (he : nameB e = false) : nextA (name ++ e :: t) = afterA name ((e :: t).dropWhile white) := by
  obtain ⟨c, u, rfl, h1, h2⟩ := plain_cons name hv hn
  obtain ⟨q1, q2⟩ := take_all (p := nameB) u e t (all_imp _ plain_name h2) he
  have h62 : c ≠ 62 := ne_byte c 62 (plainB_white c h1).2.2.1
  rw [List.cons_append, nextA, List.dropWhile_cons, if_neg (by rw [plain_skip c h1]; decide)]
  simp only
  rw [if_neg h62, q1, q2]
theorem quotedA_plain (q : UInt8) (v t : Bs) (hv : v.all plainB = true) (hq : plainB q = false) : quotedA q (v ++ q :: t) = (some v, t) := by
  obtain ⟨q1, q2⟩ := take_all (p := fun c => c != q) v q t (all_imp _ (fun c hc => by
    rw [bne_iff_ne]; rintro rfl; rw [hq] at hc; cases hc) hv) (by simp)
  unfold quotedA
  rw [q1, q2]
theorem afterA_eq (name t v r : Bs) (h : valueA t = (some v, r)) (hn : name.all plainB = true) (hv : v.all plainB = true) : afterA name (61 :: t) = (some (name, v), r) := by
  unfold afterA
  simp only
  rw [if_pos trivial, h]
  simp only [Option.map_some]
  rw [fold_plain name hn, fold_plain v hv]
theorem valueA_quoted (q : UInt8) (v t : Bs) (hq : q = 34 ∨ q = 39) (hv : v.all plainB = true) : valueA (q :: (v ++ q :: t)) = (some v, t) := by
  have hw : white q = false := by rcases hq with rfl | rfl <;> decide
  have hp : plainB q = false := by rcases hq with rfl | rfl <;> decide
  unfold valueA
  rw [List.dropWhile_cons, if_neg (by rw [hw]; decide)]
  simp only
  rw [if_pos hq, quotedA_plain q v t hv hp]
theorem next_plain0 (name v b : Bs) (hn : name.all plainB = true) (hn0 : name ≠ []) (hv : v.all plainB = true) (hv0 : v ≠ []) : nextA (name ++ [61] ++ v ++ [32] ++ b) = (some (name, v), 32 :: b) := by
  have e : name ++ [61] ++ v ++ [32] ++ b = name ++ 61 :: (v ++ 32 :: b) := by simp
  rw [e, nextA_name name 61 _ hn hn0 (by decide), List.dropWhile_cons, if_neg (by decide)]
  exact afterA_eq name _ v _ (valueA_plain v 32 b hv hv0 (by decide)) hn hv
theorem next_plain1 (name v b : Bs) (hn : name.all plainB = true) (hn0 : name ≠ []) (hv : v.all plainB = true) : nextA ([32] ++ name ++ [61, 39] ++ v ++ [39] ++ b) = (some (name, v), b) := by
  have e : [32] ++ name ++ [61, 39] ++ v ++ [39] ++ b = 32 :: (name ++ 61 :: (39 :: (v ++ 39 :: b))) := by simp
  rw [e, nextA_skip 32 _ (by decide), nextA_name name 61 _ hn hn0 (by decide), List.dropWhile_cons, if_neg (by decide)]
  exact afterA_eq name _ v _ (valueA_quoted 39 v b (.inr rfl) hv) hn hv
theorem next_plain2 (name v b : Bs) (hn : name.all plainB = true) (hn0 : name ≠ []) (hv : v.all plainB = true) : nextA ([47] ++ name ++ [32, 61, 32, 34] ++ v ++ [34] ++ b) = (some (name, v), b) := by
  have e : [47] ++ name ++ [32, 61, 32, 34] ++ v ++ [34] ++ b = 47 :: (name ++ 32 :: (61 :: (32 :: (34 :: (v ++ 34 :: b))))) := by simp
  have hval : valueA (32 :: (34 :: (v ++ 34 :: b))) = (some v, b) := by
    have := valueA_quoted 34 v b (.inl rfl) hv
    unfold valueA at this ⊢
    rw [List.dropWhile_cons, if_pos (by decide)]
    exact this
  rw [e, nextA_skip 47 _ (by decide), nextA_name name 32 _ hn hn0 (by decide), List.dropWhile_cons, if_pos (by decide), List.dropWhile_cons, if_neg (by decide)]
  exact afterA_eq name _ v _ hval hn hv
/-! ## charset= -/
theorem fold1_c (c : UInt8) (h1 : c ≠ 99) (h2 : c ≠ 67) : (99 : UInt8) ≠ fold1 c := by
  intro h
  have h3 := congrArg UInt8.toNat h
  rw [fold1_nat] at h3
  have h4 : c.toNat ≠ 99 := fun e => h1 (UInt8.toNat_inj.1 e)
  have h5 : c.toNat ≠ 67 := fun e => h2 (UInt8.toNat_inj.1 e)
  have h6 : (99 : UInt8).toNat = 99 := rfl
  rw [h6] at h3
  split at h3 <;> omega
theorem charA_ahead : ∀ (a l : Bs), (∀ c ∈ a, c ≠ 99 ∧ c ≠ 67) → charA (a ++ l) = charA l
  | [], l, _ => rfl
  | c :: a, l, h => by
    obtain ⟨h1, h2⟩ := h c (by simp)
    rw [List.cons_append, charA_step c _ (prefix_cons _ _ _ _ (fold1_c c h1 h2))]
    exact charA_ahead a l (fun x hx => h x (by simp [hx]))
theorem charA_lower (u : Bs) (r : Bs) (h : behindEq (r.dropWhile white) = some u) : charA (charset7 ++ r) = charOf u := by
  have e : charset7 ++ r = 99 :: ([104, 97, 114, 115, 101, 116] ++ r) := rfl
  rw [e]
  exact charA_eq 99 _ u rfl h
theorem charA_upper (u : Bs) (r : Bs) (h : behindEq (r.dropWhile white) = some u) : charA ([67, 104, 97, 114, 83, 101, 116] ++ r) = charOf u := by
  have e : ([67, 104, 97, 114, 83, 101, 116] ++ r : Bs) = 67 :: ([104, 97, 114, 83, 101, 116] ++ r) := rfl
  rw [e]
  exact charA_eq 67 _ u rfl h
theorem charOf_plain (name b : Bs) (hn : name.all plainB = true) (hn0 : name ≠ []) : charOf (name ++ 59 :: b) = find name := by
  obtain ⟨c, u, rfl, h1, h2⟩ := plain_cons name hn hn0
  have hp := plainB_white c h1
  obtain ⟨q1, _⟩ := take_all (p := labB) (c :: u) 59 b (all_imp _ plain_lab hn) (by decide)
  rw [List.cons_append] at q1 ⊢
  unfold charOf
  rw [List.dropWhile_cons, if_neg (by rw [hp.1]; decide)]
  simp only
  rw [if_neg, q1]
  rintro (e1 | e1)
  · exact hp.2.2.2.2.1 (by rw [e1]; rfl)
  · exact hp.2.2.2.2.2.1 (by rw [e1]; rfl)
theorem charOf_quoted (name b : Bs) (hn : name.all plainB = true) : charOf ([32, 39] ++ name ++ 39 :: b) = find name := by
  have e : [32, 39] ++ name ++ 39 :: b = 32 :: (39 :: (name ++ 39 :: b)) := by simp
  rw [e, charOf, List.dropWhile_cons, if_pos (by decide), List.dropWhile_cons, if_neg (by decide)]
  simp only
  rw [if_pos (.inr trivial), quotedA_plain 39 name b hn (by decide)]
theorem charOf_open (name : Bs) (hn : name.all plainB = true) : charOf (34 :: name) = 0 := by
  obtain ⟨_, q2⟩ := take_end (p := fun c => c != 34) name (all_imp _ (fun c hc => by
    rw [bne_iff_ne]; rintro rfl; exact absurd hc (by decide)) hn)
  rw [charOf, List.dropWhile_cons, if_neg (by decide)]
  simp only
  rw [if_pos (.inl trivial), quotedA, q2]
theorem char_plain0 (a name b : Bs) (ha : ∀ c ∈ a, c ≠ 99 ∧ c ≠ 67) (hn : name.all plainB = true) (hn0 : name ≠ []) : charA (a ++ charset7 ++ [61] ++ name ++ [59] ++ b) = find name := by
  have e : a ++ charset7 ++ [61] ++ name ++ [59] ++ b = a ++ (charset7 ++ 61 :: (name ++ 59 :: b)) := by simp
  rw [e, charA_ahead a _ ha, charA_lower (name ++ 59 :: b) _ rfl, charOf_plain name b hn hn0]
theorem char_plain1 (a name b : Bs) (ha : ∀ c ∈ a, c ≠ 99 ∧ c ≠ 67) (hn : name.all plainB = true) : charA (a ++ [67, 104, 97, 114, 83, 101, 116] ++ [32, 61, 32, 39] ++ name ++ [39] ++ b) = find name := by
  have e : a ++ [67, 104, 97, 114, 83, 101, 116] ++ [32, 61, 32, 39] ++ name ++ [39] ++ b = a ++ ([67, 104, 97, 114, 83, 101, 116] ++ 32 :: 61 :: ([32, 39] ++ name ++ 39 :: b)) := by simp
  rw [e, charA_ahead a _ ha, charA_upper ([32, 39] ++ name ++ 39 :: b) _ rfl, charOf_quoted name b hn]
theorem char_plain2 (a name : Bs) (ha : ∀ c ∈ a, c ≠ 99 ∧ c ≠ 67) (hn : name.all plainB = true) : charA (a ++ charset7 ++ [61, 34] ++ name) = 0 := by
  have e : a ++ charset7 ++ [61, 34] ++ name = a ++ (charset7 ++ 61 :: (34 :: name)) := by simp
  rw [e, charA_ahead a _ ha, charA_lower (34 :: name) _ rfl, charOf_open name hn]
end Go.Proofs.YthaoohckgilahaaDoor.M

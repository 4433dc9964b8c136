/-
  Labels, in plain functions and laws.
-/
import Derived.Test.YthaoohckgilahaaDoorPlain
namespace Go.Proofs.YthaoohckgilahaaDoor.M
open Go

def white (c : UInt8) : Bool := decide (c = 32 ∨ c = 9 ∨ c = 10 ∨ c = 12 ∨ c = 13)
def trimL (l : Bs) : Bs := l.dropWhile white
def trimR (l : Bs) : Bs := (l.reverse.dropWhile white).reverse
def trim (l : Bs) : Bs := trimR (trimL l)
def fold1 (c : UInt8) : UInt8 := if 65 ≤ c.toNat ∧ c.toNat ≤ 90 then c + 32 else c
def fold (l : Bs) : Bs := l.map fold1
def labels : List (Bs × Int) := [
  ([117, 110, 105, 99, 111, 100, 101, 45, 49, 45, 49, 45, 117, 116, 102, 45, 56], 1), ([117, 116, 102, 45, 56], 1), ([117, 116, 102, 56], 1),
  ([117, 116, 102, 45, 49, 54], 2), ([117, 116, 102, 45, 49, 54, 108, 101], 2), ([117, 110, 105, 99, 111, 100, 101], 2), ([117, 116, 102, 45, 49, 54, 98, 101], 3), ([117, 110, 105, 99, 111, 100, 101, 102, 102, 102, 101], 3),
  ([119, 105, 110, 100, 111, 119, 115, 45, 49, 50, 53, 50], 4), ([99, 112, 49, 50, 53, 50], 4), ([105, 115, 111, 45, 56, 56, 53, 57, 45, 49], 4), ([108, 97, 116, 105, 110, 49], 4), ([97, 115, 99, 105, 105], 4), ([117, 115, 45, 97, 115, 99, 105, 105], 4), ([108, 49], 4),
  ([120, 45, 117, 115, 101, 114, 45, 100, 101, 102, 105, 110, 101, 100], 5), ([105, 115, 111, 45, 50, 48, 50, 50, 45, 106, 112], 6), ([99, 115, 105, 115, 111, 50, 48, 50, 50, 106, 112], 6),
  ([114, 101, 112, 108, 97, 99, 101, 109, 101, 110, 116], 7), ([104, 122, 45, 103, 98, 45, 50, 51, 49, 50], 7), ([105, 115, 111, 45, 50, 48, 50, 50, 45, 107, 114], 7), ([105, 115, 111, 45, 50, 48, 50, 50, 45, 99, 110], 7)]
def find0 (name : Bs) : Int := match labels.find? (fun x => x.1 == name) with | some x => x.2 | none => 0
def find (s : Bs) : Int := find0 (fold (trim s))
def nameOf (n : Int) : Bs :=
  if n = 1 then [117, 116, 102, 45, 56] else if n = 2 then [117, 116, 102, 45, 49, 54, 108, 101] else if n = 3 then [117, 116, 102, 45, 49, 54, 98, 101] else if n = 4 then [119, 105, 110, 100, 111, 119, 115, 45, 49, 50, 53, 50]
  else if n = 5 then [120, 45, 117, 115, 101, 114, 45, 100, 101, 102, 105, 110, 101, 100] else if n = 6 then [105, 115, 111, 45, 50, 48, 50, 50, 45, 106, 112] else [114, 101, 112, 108, 97, 99, 101, 109, 101, 110, 116]
def trimE (s : Bs) : Bs × Int := if 3000 < s.length then ([], 2) else (trim s, 0)
def foldE (s : Bs) : Bs × Int := if 3000 < s.length then ([], 2) else (fold s, 0)
def findE (s : Bs) : Int × Int := if 3000 < s.length then (0, 2) else (find s, 0)
def nameE (n : Int) : Bs × Int := if isEnc n = true then (nameOf n, 0) else ([], 6)

theorem add32 (c : UInt8) (h : 65 ≤ c.toNat ∧ c.toNat ≤ 90) : (c + 32).toNat = c.toNat + 32 := by
  rw [UInt8.toNat_add]; show (c.toNat + 32) % 256 = _; omega
theorem fold1_nat (c : UInt8) : (fold1 c).toNat = if 65 ≤ c.toNat ∧ c.toNat ≤ 90 then c.toNat + 32 else c.toNat := by
  unfold fold1; split
  · rename_i h; exact add32 c h
  · rfl
theorem fold1_fold1 (c : UInt8) : fold1 (fold1 c) = fold1 c := by
  apply UInt8.toNat_inj.1
  rw [fold1_nat (fold1 c), fold1_nat c]
  (repeat' split) <;> omega
theorem white_nat (c : UInt8) : white c = decide (c.toNat = 32 ∨ c.toNat = 9 ∨ c.toNat = 10 ∨ c.toNat = 12 ∨ c.toNat = 13) := by
  unfold white
  rw [decide_eq_decide]
  simp only [← UInt8.toNat_inj]
  rfl
theorem white_fold1 (c : UInt8) : white (fold1 c) = white c := by
  rw [white_nat, white_nat, decide_eq_decide, fold1_nat]
  split <;> omega
theorem fold_fold (l : Bs) : fold (fold l) = fold l := by
  unfold fold; rw [List.map_map]; congr 1; funext c; exact fold1_fold1 c
theorem dropWhile_fold (l : Bs) : (fold l).dropWhile white = fold (l.dropWhile white) := by
  induction l with
  | nil => rfl
  | cons c t ih =>
    show (fold1 c :: fold t).dropWhile white = _
    rw [List.dropWhile_cons, List.dropWhile_cons, white_fold1, ih]
    split <;> rfl
theorem trim_fold (l : Bs) : trim (fold l) = fold (trim l) := by
  unfold trim trimR trimL
  rw [dropWhile_fold, show (fold (l.dropWhile white)).reverse = fold ((l.dropWhile white).reverse) from by unfold fold; rw [List.map_reverse], dropWhile_fold]
  unfold fold; rw [List.map_reverse]
theorem dropWhile_idem (p : UInt8 → Bool) (l : Bs) : (l.dropWhile p).dropWhile p = l.dropWhile p := by
  induction l with
  | nil => rfl
  | cons c t ih =>
    rw [List.dropWhile_cons]
    split
    · exact ih
    · rename_i h; rw [List.dropWhile_cons, if_neg h]
theorem trimL_of_head (l : Bs) (h : ∀ c, l.head? = some c → white c = false) : trimL l = l := by
  cases l with
  | nil => rfl
  | cons c t => rw [trimL, List.dropWhile_cons, if_neg (by rw [h c rfl]; decide)]
theorem dropWhile_head (p : UInt8 → Bool) (l : Bs) (c : UInt8) (h : (l.dropWhile p).head? = some c) : p c = false := by
  induction l with
  | nil => cases h
  | cons d t ih =>
    rw [List.dropWhile_cons] at h
    split at h
    · exact ih h
    · rename_i hd; injection h with h; subst h; simpa using hd
theorem trimR_prefix (l : Bs) : ∃ u, l = trimR l ++ u := by
  unfold trimR
  obtain ⟨u, hu⟩ := List.dropWhile_suffix (p := white) (l := l.reverse)
  refine ⟨u.reverse, ?_⟩
  have := congrArg List.reverse hu
  rw [List.reverse_append, List.reverse_reverse] at this
  exact this.symm
theorem trim_trim (l : Bs) : trim (trim l) = trim l := by
  have h1 : trimL (trim l) = trim l := by
    apply trimL_of_head
    intro c hc
    obtain ⟨u, hu⟩ := trimR_prefix (trimL l)
    cases ht : trimR (trimL l) with
    | nil => rw [trim, ht] at hc; cases hc
    | cons d t =>
      rw [trim, ht] at hc
      injection hc with hc
      subst hc
      rw [ht] at hu
      exact dropWhile_head white l d (by show (trimL l).head? = _; rw [hu]; rfl)
  show trimR (trimL (trim l)) = trim l
  rw [h1]
  show trimR (trimR (trimL l)) = trimR (trimL l)
  unfold trimR
  rw [List.reverse_reverse, dropWhile_idem]
theorem find_again (l : Bs) : find (fold (trim l)) = find l := by
  unfold find
  rw [trim_fold, trim_trim, fold_fold]
theorem trim_again (l : Bs) : trim (fold (trim l)) = fold (trim l) := by rw [trim_fold, trim_trim]
theorem dropWhile_le (p : UInt8 → Bool) (l : Bs) : (l.dropWhile p).length ≤ l.length := by
  induction l with
  | nil => exact Nat.le_refl _
  | cons c t ih => rw [List.dropWhile_cons]; split <;> simp only [List.length_cons] <;> omega
theorem trim_len (l : Bs) : (trim l).length ≤ l.length := by
  unfold trim trimR trimL
  rw [List.length_reverse]
  have h1 := dropWhile_le white (l.dropWhile white).reverse
  have h2 := dropWhile_le white l
  rw [List.length_reverse] at h1
  omega
theorem fold_len (l : Bs) : (fold l).length = l.length := by unfold fold; rw [List.length_map]
theorem trim_rev (l : Bs) : trim l = trimL (trimR l) := by
  -- both ways cut the same
  have key : ∀ l : Bs, (∃ c ∈ l, white c = false) → ∃ a m b : Bs, l = a ++ m ++ b ∧ a.all white = true ∧ b.all white = true ∧ m ≠ [] ∧ (∀ c, m.head? = some c → white c = false) ∧ (∀ c, m.getLast? = some c → white c = false) := by
    intro l hl
    have h1 : l.takeWhile white ++ l.dropWhile white = l := List.takeWhile_append_dropWhile
    have h2 : (l.dropWhile white).reverse.takeWhile white ++ (l.dropWhile white).reverse.dropWhile white = (l.dropWhile white).reverse := List.takeWhile_append_dropWhile
    have h3 := congrArg List.reverse h2
    rw [List.reverse_append, List.reverse_reverse] at h3
    refine ⟨l.takeWhile white, ((l.dropWhile white).reverse.dropWhile white).reverse, ((l.dropWhile white).reverse.takeWhile white).reverse, ?_, ?_, ?_, ?_, ?_, ?_⟩
    · rw [List.append_assoc, h3, h1]
    · exact List.all_takeWhile
    · rw [List.all_reverse]; exact List.all_takeWhile
    · intro hn
      rw [hn, List.nil_append] at h3
      obtain ⟨c, hc, hw⟩ := hl
      rw [← h1, List.mem_append] at hc
      rcases hc with hc | hc
      · have := List.all_eq_true.1 (List.all_takeWhile (p := white) (l := l)) c hc
        rw [hw] at this; cases this
      · rw [← h3, List.mem_reverse] at hc
        have := List.all_eq_true.1 (List.all_takeWhile (p := white) (l := (l.dropWhile white).reverse)) c hc
        rw [hw] at this; cases this
    · intro c hc
      have : (l.dropWhile white).head? = some c := by
        rw [← h3, List.head?_append, hc]; rfl
      exact dropWhile_head white l c this
    · intro c hc
      rw [List.getLast?_reverse] at hc
      exact dropWhile_head white _ c hc
  have hL : ∀ a m : Bs, a.all white = true → (∀ c, m.head? = some c → white c = false) → trimL (a ++ m) = m := by
    intro a m ha hm
    induction a with
    | nil => exact trimL_of_head m hm
    | cons x t ih =>
      rw [List.all_cons, Bool.and_eq_true] at ha
      rw [List.cons_append, trimL, List.dropWhile_cons, if_pos ha.1]
      exact ih ha.2
  have hR : ∀ m b : Bs, b.all white = true → (∀ c, m.getLast? = some c → white c = false) → trimR (m ++ b) = m := by
    intro m b hb hm
    have := hL b.reverse m.reverse (by rw [List.all_reverse]; exact hb) (by intro c hc; rw [List.head?_reverse] at hc; exact hm c hc)
    unfold trimR
    rw [List.reverse_append]
    unfold trimL at this
    rw [this, List.reverse_reverse]
  by_cases hl : ∃ c ∈ l, white c = false
  · obtain ⟨a, m, b, rfl, ha, hb, hm, h1, h2⟩ := key l hl
    have e1 : trimL (a ++ m ++ b) = m ++ b := by
      rw [List.append_assoc]
      refine hL a (m ++ b) ha (fun c hc => ?_)
      cases m with
      | nil => exact absurd rfl hm
      | cons x y => exact h1 c hc
    have e2 : trimR (a ++ m ++ b) = a ++ m := by
      refine hR (a ++ m) b hb (fun c hc => ?_)
      rw [List.getLast?_append] at hc
      cases hq : m.getLast? with
      | none => exact absurd (List.getLast?_eq_none_iff.1 hq) hm
      | some x => rw [hq] at hc; exact h2 c (hq.trans hc)
    rw [trim, e1, hR m b hb h2, e2, hL a m ha h1]
  · have hall : l.all white = true := by
      rw [List.all_eq_true]; intro c hc
      cases hw : white c with
      | true => rfl
      | false => exact absurd ⟨c, hc, hw⟩ hl
    have e1 : trimL l = [] := by have := hL l [] hall (by simp); rwa [List.append_nil] at this
    have e2 : trimR l = [] := by have := hR [] l hall (by simp); rwa [List.nil_append] at this
    rw [trim, e1, e2]; rfl
theorem nameE_find : ∀ n : Int, isEnc n = true → find ([10, 32] ++ nameOf n ++ [9]) = n := by
  intro n h
  have : n = 1 ∨ n = 2 ∨ n = 3 ∨ n = 4 ∨ n = 5 ∨ n = 6 ∨ n = 7 := by simp only [isEnc, decide_eq_true_eq] at h; omega
  rcases this with rfl | rfl | rfl | rfl | rfl | rfl | rfl <;> decide +kernel
end Go.Proofs.YthaoohckgilahaaDoor.M

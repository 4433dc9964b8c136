/-
  Texts of the proof, laid together: Bulk. No condition of its own.
-/
import Derived.Test.YteingkjdemlhgaaGreatDoorRows

/-
  What the bound on the bulk of the arguments gives for a list of numbers.
-/
namespace Go.Proofs.YteingkjdemlhgaaGreatDoor
theorem bulk_pos {H : Type} : (d : DataW H) → 1 ≤ Rows.uptoBulk d
  | .lit (.string _) => by unfold Rows.uptoBulk; omega
  | .lit (.int _ _) | .lit (.bool _) | .lit (.float _ _) | .lit .nil => by unfold Rows.uptoBulk; omega
  | .nil => by unfold Rows.uptoBulk; omega
  | .ptr _ => by unfold Rows.uptoBulk; omega
  | .slice _ _ => by unfold Rows.uptoBulk; omega
  | .agg _ => by unfold Rows.uptoBulk; omega
  | .iface _ _ => by unfold Rows.uptoBulk; omega
  | .map _ => by unfold Rows.uptoBulk; omega
  | .held _ => by unfold Rows.uptoBulk; omega
theorem bulk_count {H : Type} : (l : List (DataW H)) → l.length ≤ Rows.uptoBulkAll l
  | [] => Nat.zero_le _
  | d :: l => by
    have h1 := bulk_pos d
    have h2 := bulk_count l
    rw [Rows.uptoBulkAll, List.length_cons]; omega
theorem bulk_of {H : Type} (d : DataW H) : (l : List (DataW H)) → d ∈ l → Rows.uptoBulk d ≤ Rows.uptoBulkAll l
  | [], h => by cases h
  | e :: l, h => by
    rw [Rows.uptoBulkAll]
    rcases List.mem_cons.1 h with rfl | h
    · omega
    · have := bulk_of d l h; omega
theorem bulk_bound {H : Type} {l : List (DataW H)} (h : Rows.uptoSmall H l = true) : Rows.uptoBulkAll l ≤ 1048576 := of_decide_eq_true h
theorem bulk_slice {H : Type} {l : List (DataW H)} (h : Rows.uptoSmall H l = true) (xs ys : List (DataW H)) (hm : DataW.slice xs ys ∈ l) : xs.length ≤ 1048576 := by
  have h1 := bulk_of _ l hm
  have h2 := bulk_bound h
  have h3 := bulk_count xs
  rw [Rows.uptoBulk] at h1
  omega
end Go.Proofs.YteingkjdemlhgaaGreatDoor

/-
  The document's answers on encodings of a byte a sign.
-/
import Derived.Test.YthjafhoahhdlnaaSingle2
import Derived.Test.YthjafhoahhdlnaaRInts
namespace Go.Proofs.Ythjafhoahhdlnaa
open Go.RowKit

set_option maxRecDepth 100000 in
theorem pointOf_any (user : Bool) (n : Int) (w : World) (h0 : 0 ≤ n) (h1 : n < 256) : Calls Try.prog 52 #[.bool user, .int .i64 n] w fun e w' => e = .returned (.int .i64 (M.pointOf user n.toNat)) ∧ Bel w w' := by
  obtain ⟨k, rfl⟩ := Int.eq_ofNat_of_zero_le h0
  rw [Int.toNat_natCast]
  have hk : k < 256 := by omega
  by_cases g1 : k < 128
  · have HP := Lib.hid (show M.pointOf user k = (k : Int) by rw [M.pointOf, if_pos g1])
    go_enter Try.func52, Try.ntmps52
    go_wp2_with fail
    go_ret
    rw [HP.out]
    exact ⟨rfl, Bel.refl _⟩
  · cases user
    · by_cases g2 : k < 160
      · have HP := Lib.hid (show M.pointOf false k = M.high[k - 128]?.getD 0 by rw [M.pointOf, if_neg g1, if_neg (by simp), if_pos g2])
        go_enter Try.func52, Try.ntmps52
        go_wp2_with (first | (go_at_call 61; refine (high_any _).mono ?_; rintro e w' ⟨rfl, hc, hb2⟩; have hc' := hc (k - 128) (by omega)))
        go_ret
        rw [HP.out]
        exact ⟨rfl, by assumption⟩
      · have HP := Lib.hid (show M.pointOf false k = (k : Int) by rw [M.pointOf, if_neg g1, if_neg (by simp), if_neg g2])
        go_enter Try.func52, Try.ntmps52
        go_wp2_with fail
        go_ret
        rw [HP.out]
        exact ⟨rfl, Bel.refl _⟩
    · have HP := Lib.hid (show M.pointOf true k = 63232 + (k : Int) by rw [M.pointOf, if_neg g1, if_pos rfl])
      go_enter Try.func52, Try.ntmps52
      go_wp2_with fail
      go_ret
      rw [HP.out]
      exact ⟨rfl, Bel.refl _⟩
set_option maxRecDepth 100000 in
theorem decodeSingle_any (user : Bool) (s : ByteArray) (w : World) (hs : s.size ≤ 68719476735) : Calls Try.prog 39 #[.bool user, .string s] w fun e w' => ∃ v, e = .returned v ∧ Own w.heap.size 3 w' v ((M.decodeS user s.data.toList).map (Value.int .i64)) ∧ Bel w w' := by
  go_enter Try.func39, Try.ntmps39
  go_wp2_with fail
  go_loopw [5, 6] (fun v i wr => ∃ k : Nat, k ≤ s.size ∧ i = .int .i64 k ∧ Own w.heap.size 3 wr v (((M.decodeS user s.data.toList).take k).map (Value.int .i64)) ∧ Bel w wr) (fun _ i _ => s.size - (intOf i).toNat)
  case atStart => exact ⟨0, by omega, rfl, Own.nil _ _ _, Bel.refl _⟩
  case round =>
    obtain ⟨k, hk, rfl, hown, hb⟩ := hrel
    by_cases hlt : k < s.size
    · have HT := Lib.hid (take_snoc (Value.int .i64) (M.decodeS user s.data.toList) k (M.pointOf user s[k].toNat) (by rw [M.decodeS, List.getElem?_map, byte_at s k hlt]; rfl))
      have hlen : ((M.decodeS user s.data.toList).take k).length ≤ k := List.length_take_le _ _
      have hcl : s[k].toNat < 256 := s[k].toNat_lt
      go_wp2_with (first | (go_at_call 52; refine (pointOf_any _ _ _ (by omega) (by omega)).mono ?_; rintro e w' ⟨rfl, hb2⟩; rw [Int.toNat_natCast]; have hown2 := hown.bel hb2; have hb3 : Bel w _ := hb.trans hb2; have hB := hb3.size) | (at_builtin; refine wpList_app rfl (.tmp 13) (.tmp 20) 22 rfl elemInt (by decide) w.heap.size _ _ _ rfl rfl hown2 rfl (by simp; omega) (by first | exact Nat.le_refl _ | assumption | (have := hb.size; omega)) ?_; intro v' w1 hown' hb1))
      go_roundw
      case rel =>
        have HO : Own w.heap.size 3 w1 v' (((M.decodeS user s.data.toList).take (k + 1)).map (Value.int .i64)) := by rw [HT.out]; exact hown'
        have HB : Bel w w1 := hb3.upto hb1 (Nat.le_refl _)
        first | exact ⟨k + 1, by omega, by go_num, HO, HB⟩ | ((repeat apply Exists.intro); exact ⟨⟨k + 1, by omega, by go_num, HO, HB⟩, rfl⟩)
      case measure => simp [intOf]; omega
    · obtain rfl : k = s.size := by omega
      have HT := Lib.hid (show (M.decodeS user s.data.toList).take s.size = M.decodeS user s.data.toList by rw [List.take_of_length_le (by rw [M.decodeS, List.length_map, ← Lib.size_eq]; exact Nat.le_refl _)])
      go_wp2_with fail
      go_ret
      exact ⟨_, rfl, by rw [← HT.out]; exact hown, hb⟩
end Go.Proofs.Ythjafhoahhdlnaa

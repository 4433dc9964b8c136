/-
  The law KanaTells.
-/
import Derived.Test.YthjafhoahhdlnaaLawKana
import Derived.Test.YthjafhoahhdlnaaRStream
import Derived.Test.YthjafhoahhdlnaaRKana2
namespace Go.Proofs.Ythjafhoahhdlnaa
open Go.RowKit
set_option maxRecDepth 1000000

theorem encodeKana_to (v : Value) (xs : List Int) (l : List UInt8) (k : Int) (ok : Bool) (h : M.rawK xs = (l, k)) (hk : (k == 0) = ok) (w : World) (hv : IntSl w v xs) (hlen : xs.length ≤ 1000000) : Calls Try.prog 16 #[v] w fun e w' => e = .returned (.tuple #[.string ⟨l.toArray⟩, .bool ok]) ∧ Bel w w' := by
  have := encodeKana_any v xs w hv hlen
  rw [h] at this
  simp only [hk] at this
  exact this
set_option maxHeartbeats 4000000 in
theorem kanaTellsTrue (s : ByteArray) (v : Value) (xs : List Int) (w : World) (_ : s.size ≤ reachBytes) (hv : IntSl w v xs) (_ : xs.length * 8 ≤ reachBytes) (_ : ∀ n ∈ xs, -9223372036854775808 ≤ n ∧ n ≤ 9223372036854775807) : Calls Try.prog 5 #[.string s, v] w fun e w' => e = .returned (.bool true) ∧ Bel w w' := by
  have hv0 := hv
  obtain ⟨va, vc, rfl, hvc1, hvc2, _, _⟩ := hv0
  unfold maxLen at hvc2
  rcases long_cases s with ⟨hs1, hl⟩ | ⟨hs1, hl⟩
  · have Hl := Lib.hid hl
    have Hd := Lib.hid (show M.decK s.data.toList = ([], 2) by rw [M.decK, if_pos (by rw [← Lib.size_eq]; exact hs1)])
    clear hl
    by_cases hx : 3000 < xs.length
    · have He := Lib.hid (show M.encodeK xs = ([], 2) by rw [M.encodeK, if_pos hx])
      go_enter Try.func5, Try.ntmps5
      go_wp2_with fail
      refine (decK_sl _ _ _ Hd.out _).mono ?_
      rintro e w1 ⟨A1, c1, rfl, o1, b1⟩
      go_wp2_with fail
      refine (encodeK_to _ _ _ _ He.out _ (hv.bel (by repeat (first | exact Bel.refl _ | refine Bel.drewN ?_ _ | refine Bel.drew ?_ | refine Bel.alloc ?_ _ | refine Bel.trans ?_ (by assumption) | refine Bel.setCell ?_ (by simp; omega) _)))).mono ?_
      rintro e w2 ⟨rfl, b2⟩
      go_wp2_with fail
      refine (long_to _ _ Hl.out _).mono ?_
      rintro e w3' ⟨rfl, rfl⟩
      go_wp2_with fail
      refine (kanaBegun_any _).mono ?_
      rintro e w8 ⟨rfl, b8⟩
      go_wp2_with fail
      refine (intsAre_yes _ _ _ [] _ _ (o1.ints.bel (by repeat (first | exact Bel.refl _ | refine Bel.drewN ?_ _ | refine Bel.drew ?_ | refine Bel.alloc ?_ _ | refine Bel.trans ?_ (by assumption) | refine Bel.setCell ?_ (by simp; omega) _))) (IntSl.nil_ _) rfl).mono ?_
      rintro e w9 ⟨rfl, b9⟩
      go_wp2_with fail
      go_ret
      exact ⟨rfl, (by repeat (first | exact Bel.refl _ | refine Bel.drewN ?_ _ | refine Bel.drew ?_ | refine Bel.alloc ?_ _ | refine Bel.trans ?_ (by assumption) | refine Bel.setCell ?_ (by simp; omega) _))⟩
    · have he : M.encodeK xs = M.rawK xs := by rw [M.encodeK, if_neg hx]
      cases hr : M.encK 0 xs with
      | none =>
        have Hr := Lib.hid (show M.rawK xs = ([], 5) by rw [M.rawK, hr])
        have He := Lib.hid (he.trans Hr.out)
        clear he hr
        go_enter Try.func5, Try.ntmps5
        go_wp2_with fail
        refine (decK_sl _ _ _ Hd.out _).mono ?_
        rintro e w1 ⟨A1, c1, rfl, o1, b1⟩
        go_wp2_with fail
        refine (encodeK_to _ _ _ _ He.out _ (hv.bel (by repeat (first | exact Bel.refl _ | refine Bel.drewN ?_ _ | refine Bel.drew ?_ | refine Bel.alloc ?_ _ | refine Bel.trans ?_ (by assumption) | refine Bel.setCell ?_ (by simp; omega) _)))).mono ?_
        rintro e w2 ⟨rfl, b2⟩
        go_wp2_with fail
        refine (long_to _ _ Hl.out _).mono ?_
        rintro e w3' ⟨rfl, rfl⟩
        go_wp2_with fail
        refine (encodeKana_to _ _ _ _ false Hr.out rfl _ (hv.bel (by repeat (first | exact Bel.refl _ | refine Bel.drewN ?_ _ | refine Bel.drew ?_ | refine Bel.alloc ?_ _ | refine Bel.trans ?_ (by assumption) | refine Bel.setCell ?_ (by simp; omega) _))) (by omega)).mono ?_
        rintro e w5 ⟨rfl, b5⟩
        go_wp2_with fail
        refine (kanaBegun_any _).mono ?_
        rintro e w8 ⟨rfl, b8⟩
        go_wp2_with fail
        refine (intsAre_yes _ _ _ [] _ _ (o1.ints.bel (by repeat (first | exact Bel.refl _ | refine Bel.drewN ?_ _ | refine Bel.drew ?_ | refine Bel.alloc ?_ _ | refine Bel.trans ?_ (by assumption) | refine Bel.setCell ?_ (by simp; omega) _))) (IntSl.nil_ _) rfl).mono ?_
        rintro e w9 ⟨rfl, b9⟩
        go_wp2_with fail
        go_ret
        exact ⟨rfl, (by repeat (first | exact Bel.refl _ | refine Bel.drewN ?_ _ | refine Bel.drew ?_ | refine Bel.alloc ?_ _ | refine Bel.trans ?_ (by assumption) | refine Bel.setCell ?_ (by simp; omega) _))⟩
      | some bs =>
        have Hr := Lib.hid (show M.rawK xs = (bs, 0) by rw [M.rawK, hr])
        have He := Lib.hid (he.trans Hr.out)
        clear he hr
        go_enter Try.func5, Try.ntmps5
        go_wp2_with fail
        refine (decK_sl _ _ _ Hd.out _).mono ?_
        rintro e w1 ⟨A1, c1, rfl, o1, b1⟩
        go_wp2_with fail
        refine (encodeK_to _ _ _ _ He.out _ (hv.bel (by repeat (first | exact Bel.refl _ | refine Bel.drewN ?_ _ | refine Bel.drew ?_ | refine Bel.alloc ?_ _ | refine Bel.trans ?_ (by assumption) | refine Bel.setCell ?_ (by simp; omega) _)))).mono ?_
        rintro e w2 ⟨rfl, b2⟩
        go_wp2_with fail
        refine (long_to _ _ Hl.out _).mono ?_
        rintro e w3' ⟨rfl, rfl⟩
        go_wp2_with fail
        refine (encodeKana_to _ _ _ _ true Hr.out rfl _ (hv.bel (by repeat (first | exact Bel.refl _ | refine Bel.drewN ?_ _ | refine Bel.drew ?_ | refine Bel.alloc ?_ _ | refine Bel.trans ?_ (by assumption) | refine Bel.setCell ?_ (by simp; omega) _))) (by omega)).mono ?_
        rintro e w5 ⟨rfl, b5⟩
        go_wp2_with fail
        refine (kanaBegun_any _).mono ?_
        rintro e w8 ⟨rfl, b8⟩
        go_wp2_with fail
        refine (intsAre_yes _ _ _ [] _ _ (o1.ints.bel (by repeat (first | exact Bel.refl _ | refine Bel.drewN ?_ _ | refine Bel.drew ?_ | refine Bel.alloc ?_ _ | refine Bel.trans ?_ (by assumption) | refine Bel.setCell ?_ (by simp; omega) _))) (IntSl.nil_ _) rfl).mono ?_
        rintro e w9 ⟨rfl, b9⟩
        go_wp2_with fail
        go_ret
        exact ⟨rfl, (by repeat (first | exact Bel.refl _ | refine Bel.drewN ?_ _ | refine Bel.drew ?_ | refine Bel.alloc ?_ _ | refine Bel.trans ?_ (by assumption) | refine Bel.setCell ?_ (by simp; omega) _))⟩
  · have Hl := Lib.hid hl
    have Hd := Lib.hid (show M.decK s.data.toList = (M.allE 6 s.data.toList, 0) by
      rw [decK_ok s.data.toList (by rw [← Lib.size_eq]; exact hs1), M.allE, if_neg (by decide), if_neg (by decide), if_neg (by decide), if_pos rfl])
    clear hl
    by_cases hx : 3000 < xs.length
    · have He := Lib.hid (show M.encodeK xs = ([], 2) by rw [M.encodeK, if_pos hx])
      go_enter Try.func5, Try.ntmps5
      go_wp2_with fail
      refine (decK_sl _ _ _ Hd.out _).mono ?_
      rintro e w1 ⟨A1, c1, rfl, o1, b1⟩
      go_wp2_with fail
      refine (encodeK_to _ _ _ _ He.out _ (hv.bel (by repeat (first | exact Bel.refl _ | refine Bel.drewN ?_ _ | refine Bel.drew ?_ | refine Bel.alloc ?_ _ | refine Bel.trans ?_ (by assumption) | refine Bel.setCell ?_ (by simp; omega) _)))).mono ?_
      rintro e w2 ⟨rfl, b2⟩
      go_wp2_with fail
      refine (long_to _ _ Hl.out _).mono ?_
      rintro e w3' ⟨rfl, rfl⟩
      go_wp2_with fail
      refine (decodeOf_any 6 rfl _ hs1 _).mono ?_
      rintro e w4 ⟨v4, rfl, o4, b4⟩
      go_wp2_with fail
      refine (kanaBegun_any _).mono ?_
      rintro e w8 ⟨rfl, b8⟩
      go_wp2_with fail
      refine (intsAre_yes _ _ _ _ _ _ (o1.ints.bel (by repeat (first | exact Bel.refl _ | refine Bel.drewN ?_ _ | refine Bel.drew ?_ | refine Bel.alloc ?_ _ | refine Bel.trans ?_ (by assumption) | refine Bel.setCell ?_ (by simp; omega) _))) (o4.ints.bel (by repeat (first | exact Bel.refl _ | refine Bel.drewN ?_ _ | refine Bel.drew ?_ | refine Bel.alloc ?_ _ | refine Bel.trans ?_ (by assumption) | refine Bel.setCell ?_ (by simp; omega) _))) rfl).mono ?_
      rintro e w9 ⟨rfl, b9⟩
      go_wp2_with fail
      go_ret
      exact ⟨rfl, (by repeat (first | exact Bel.refl _ | refine Bel.drewN ?_ _ | refine Bel.drew ?_ | refine Bel.alloc ?_ _ | refine Bel.trans ?_ (by assumption) | refine Bel.setCell ?_ (by simp; omega) _))⟩
    · have he : M.encodeK xs = M.rawK xs := by rw [M.encodeK, if_neg hx]
      cases hr : M.encK 0 xs with
      | none =>
        have Hr := Lib.hid (show M.rawK xs = ([], 5) by rw [M.rawK, hr])
        have He := Lib.hid (he.trans Hr.out)
        clear he hr
        go_enter Try.func5, Try.ntmps5
        go_wp2_with fail
        refine (decK_sl _ _ _ Hd.out _).mono ?_
        rintro e w1 ⟨A1, c1, rfl, o1, b1⟩
        go_wp2_with fail
        refine (encodeK_to _ _ _ _ He.out _ (hv.bel (by repeat (first | exact Bel.refl _ | refine Bel.drewN ?_ _ | refine Bel.drew ?_ | refine Bel.alloc ?_ _ | refine Bel.trans ?_ (by assumption) | refine Bel.setCell ?_ (by simp; omega) _)))).mono ?_
        rintro e w2 ⟨rfl, b2⟩
        go_wp2_with fail
        refine (long_to _ _ Hl.out _).mono ?_
        rintro e w3' ⟨rfl, rfl⟩
        go_wp2_with fail
        refine (decodeOf_any 6 rfl _ hs1 _).mono ?_
        rintro e w4 ⟨v4, rfl, o4, b4⟩
        go_wp2_with fail
        refine (encodeKana_to _ _ _ _ false Hr.out rfl _ (hv.bel (by repeat (first | exact Bel.refl _ | refine Bel.drewN ?_ _ | refine Bel.drew ?_ | refine Bel.alloc ?_ _ | refine Bel.trans ?_ (by assumption) | refine Bel.setCell ?_ (by simp; omega) _))) (by omega)).mono ?_
        rintro e w5 ⟨rfl, b5⟩
        go_wp2_with fail
        refine (kanaBegun_any _).mono ?_
        rintro e w8 ⟨rfl, b8⟩
        go_wp2_with fail
        refine (intsAre_yes _ _ _ _ _ _ (o1.ints.bel (by repeat (first | exact Bel.refl _ | refine Bel.drewN ?_ _ | refine Bel.drew ?_ | refine Bel.alloc ?_ _ | refine Bel.trans ?_ (by assumption) | refine Bel.setCell ?_ (by simp; omega) _))) (o4.ints.bel (by repeat (first | exact Bel.refl _ | refine Bel.drewN ?_ _ | refine Bel.drew ?_ | refine Bel.alloc ?_ _ | refine Bel.trans ?_ (by assumption) | refine Bel.setCell ?_ (by simp; omega) _))) rfl).mono ?_
        rintro e w9 ⟨rfl, b9⟩
        go_wp2_with fail
        go_ret
        exact ⟨rfl, (by repeat (first | exact Bel.refl _ | refine Bel.drewN ?_ _ | refine Bel.drew ?_ | refine Bel.alloc ?_ _ | refine Bel.trans ?_ (by assumption) | refine Bel.setCell ?_ (by simp; omega) _))⟩
      | some bs =>
        have Hr := Lib.hid (show M.rawK xs = (bs, 0) by rw [M.rawK, hr])
        have He := Lib.hid (he.trans Hr.out)
        clear he hr
        go_enter Try.func5, Try.ntmps5
        go_wp2_with fail
        refine (decK_sl _ _ _ Hd.out _).mono ?_
        rintro e w1 ⟨A1, c1, rfl, o1, b1⟩
        go_wp2_with fail
        refine (encodeK_to _ _ _ _ He.out _ (hv.bel (by repeat (first | exact Bel.refl _ | refine Bel.drewN ?_ _ | refine Bel.drew ?_ | refine Bel.alloc ?_ _ | refine Bel.trans ?_ (by assumption) | refine Bel.setCell ?_ (by simp; omega) _)))).mono ?_
        rintro e w2 ⟨rfl, b2⟩
        go_wp2_with fail
        refine (long_to _ _ Hl.out _).mono ?_
        rintro e w3' ⟨rfl, rfl⟩
        go_wp2_with fail
        refine (decodeOf_any 6 rfl _ hs1 _).mono ?_
        rintro e w4 ⟨v4, rfl, o4, b4⟩
        go_wp2_with fail
        refine (encodeKana_to _ _ _ _ true Hr.out rfl _ (hv.bel (by repeat (first | exact Bel.refl _ | refine Bel.drewN ?_ _ | refine Bel.drew ?_ | refine Bel.alloc ?_ _ | refine Bel.trans ?_ (by assumption) | refine Bel.setCell ?_ (by simp; omega) _))) (by omega)).mono ?_
        rintro e w5 ⟨rfl, b5⟩
        go_wp2_with fail
        refine (kanaBegun_any _).mono ?_
        rintro e w8 ⟨rfl, b8⟩
        go_wp2_with fail
        refine (intsAre_yes _ _ _ _ _ _ (o1.ints.bel (by repeat (first | exact Bel.refl _ | refine Bel.drewN ?_ _ | refine Bel.drew ?_ | refine Bel.alloc ?_ _ | refine Bel.trans ?_ (by assumption) | refine Bel.setCell ?_ (by simp; omega) _))) (o4.ints.bel (by repeat (first | exact Bel.refl _ | refine Bel.drewN ?_ _ | refine Bel.drew ?_ | refine Bel.alloc ?_ _ | refine Bel.trans ?_ (by assumption) | refine Bel.setCell ?_ (by simp; omega) _))) rfl).mono ?_
        rintro e w9 ⟨rfl, b9⟩
        go_wp2_with fail
        go_ret
        exact ⟨rfl, (by repeat (first | exact Bel.refl _ | refine Bel.drewN ?_ _ | refine Bel.drew ?_ | refine Bel.alloc ?_ _ | refine Bel.trans ?_ (by assumption) | refine Bel.setCell ?_ (by simp; omega) _))⟩
end Go.Proofs.Ythjafhoahhdlnaa

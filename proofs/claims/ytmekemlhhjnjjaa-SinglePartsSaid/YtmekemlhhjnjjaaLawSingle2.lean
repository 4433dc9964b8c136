/-
  The walks of the laws SingleBack and SingleParts.
-/
import Derived.Test.YtmekemlhhjnjjaaLawSingle
import Derived.Test.YtmekemlhhjnjjaaBase4
namespace Go.Proofs.Ytmekemlhhjnjjaa
open Go.RowKit

theorem sdec_sl (user : Bool) (s : ByteArray) (xs : List Int) (n : Int) (h : M.decS user s.data.toList = (xs, n)) (w : World) : Calls Try.prog 25 #[.bool user, .string s] w fun e w' => ∃ A c, e = .returned (.tuple #[.slice A xs.length c, .int .i64 n]) ∧ Own w.heap.size 3 w' (.slice A xs.length c) (xs.map (Value.int .i64)) ∧ Bel w w' := by
  refine (sdec_to user s xs n h w).mono ?_
  rintro e w' ⟨v, rfl, ho, hb⟩
  obtain ⟨A, c, hv, _⟩ := ho.form
  rw [List.length_map] at hv
  subst hv
  exact ⟨A, c, rfl, ho, hb⟩
theorem decS_ok (user : Bool) (s : ByteArray) (h : s.size ≤ 3000) : M.decS user s.data.toList = (M.decodeS user s.data.toList, 0) := by
  rw [M.decS, if_neg (by rw [← Lib.size_eq]; omega)]
theorem decodeS_len (user : Bool) (s : ByteArray) : (M.decodeS user s.data.toList).length = s.size := by rw [M.decodeS, List.length_map, ← Lib.size_eq]

set_option maxRecDepth 100000 in
theorem singlePartsTrue (user : Bool) (s t : ByteArray) (w : World) (hs : s.size ≤ reachBytes) (ht : t.size ≤ reachBytes) :
    Calls Try.prog 6 #[.bool user, .string s, .string t] w fun e w' => e = .returned (.bool true) ∧ Bel w w' := by
  simp only [reachBytes] at hs ht
  by_cases h : s.size + t.size ≤ 3000
  · have d1 := Lib.hid (decS_ok user s (by omega))
    have d2 := Lib.hid (decS_ok user t (by omega))
    have d3 := Lib.hid (show M.decS user (s ++ t).data.toList = (M.decodeS user s.data.toList ++ M.decodeS user t.data.toList, 0) by
      rw [data_append, M.decS, if_neg (by rw [List.length_append, ← Lib.size_eq, ← Lib.size_eq]; omega), M.decodeS, List.map_append]; rfl)
    obtain ⟨xs, hx⟩ : ∃ xs, xs = M.decodeS user s.data.toList := ⟨_, rfl⟩
    obtain ⟨ys, hy⟩ : ∃ ys, ys = M.decodeS user t.data.toList := ⟨_, rfl⟩
    rw [← hx, ← hy] at d3
    rw [← hx] at d1
    rw [← hy] at d2
    have l1 : xs.length = s.size := by rw [hx, decodeS_len]
    have l2 : ys.length = t.size := by rw [hy, decodeS_len]
    have e1 : ((xs.length : Int) == (s.size : Int)) = true := by rw [beq_iff_eq]; omega
    have n1 : xs.length ≤ 3000 := by omega
    have n2 : ys.length ≤ 3000 := by omega
    clear hx hy l1 l2
    go_enter Try.func6, Try.ntmps6
    go_wp2_with fail
    refine (singleBegun_any _).mono ?_
    rintro e w0 ⟨rfl, b0⟩
    go_wp2_with fail
    refine (sdec_sl user s _ _ d1.out _).mono ?_
    rintro e w1 ⟨A1, c1, rfl, o1, b1⟩
    go_wp2_with fail
    refine (sdec_sl user t _ _ d2.out _).mono ?_
    rintro e w2 ⟨A2, c2, rfl, o2, b2⟩
    go_wp2_with fail
    refine (sdec_sl user (s ++ t) _ _ d3.out _).mono ?_
    rintro e w3 ⟨A3, c3, rfl, o3, b3⟩
    go_wp2_with (first
      | (at_builtin; refine wpList_appInts (.tmp 60) (.tmp 61) 30 rfl elemInt (by decide) w3.heap.size _ _ (Own.empty _ _ (Nat.le_refl _)) _ xs (o1.ints.bel (by repeat (first | exact Bel.refl _ | refine Bel.drewN ?_ _ | refine Bel.drew ?_ | refine Bel.alloc ?_ _ | refine Bel.trans ?_ (by assumption) | refine Bel.setCell ?_ (by simp; omega) _))) (by simp; omega) (by simp) rfl rfl rfl ?_; intro v4 w4 o4 b4; have hb4 : Bel w3 w4 := ((Bel.refl w3).alloc _).upto b4 (by simp))
      | (at_builtin; refine wpList_appInts (.tmp 62) (.tmp 63) 30 rfl elemInt (by decide) w3.heap.size _ _ o4 _ ys (o2.ints.bel (by repeat (first | exact Bel.refl _ | refine Bel.drewN ?_ _ | refine Bel.drew ?_ | refine Bel.alloc ?_ _ | refine Bel.trans ?_ (by assumption) | refine Bel.setCell ?_ (by simp; omega) _))) (by simp; omega) hb4.size rfl rfl rfl ?_; intro v5 w5 o5 b5; have hb5 : Bel w3 w5 := hb4.upto b5 (Nat.le_refl _)))
    have i3 : IntSl w5 (.slice A3 (xs.length + ys.length) c3) (xs ++ ys) := by
      have := o3.ints.bel (hb5)
      rwa [List.length_append] at this
    have i5 : IntSl w5 v5 (xs ++ ys) := Own.ints (by simpa using o5)
    refine (sameInts_yes _ _ _ _ _ i3 i5 rfl).mono ?_
    rintro e w6 ⟨rfl, b6⟩
    go_wp2_with fail
    go_ret
    exact ⟨rfl, (by repeat (first | exact Bel.refl _ | refine Bel.drewN ?_ _ | refine Bel.drew ?_ | refine Bel.alloc ?_ _ | refine Bel.trans ?_ (by assumption) | refine Bel.setCell ?_ (by simp; omega) _))⟩
  · go_enter Try.func6, Try.ntmps6
    go_wp2_with (go_at_call 32; refine (singleBegun_any _).mono ?_; rintro e w' ⟨rfl, b9⟩)
    go_ret
    exact ⟨rfl, by assumption⟩
theorem tellsS_cases (user : Bool) (p : Int) : M.tellsS user p = (0, 5) ∨ ∃ j : Nat, j < 256 ∧ M.tellsS user p = ((j : Int), 0) ∧ M.pointOf user j = p := by
  rcases M.byteOf_cases user p with ⟨h, _⟩ | ⟨j, hj, h, hp⟩
  · exact .inl (by rw [M.tellsS, h, if_pos (by decide)])
  · exact .inr ⟨j, hj, by rw [M.tellsS, h, if_neg (by omega)], hp⟩
set_option maxRecDepth 100000 in
theorem singleBackTrue (user : Bool) (s : ByteArray) (p : Int) (w : World) (hs : s.size ≤ reachBytes) (_ : -9223372036854775808 ≤ p ∧ p ≤ 9223372036854775807) :
    Calls Try.prog 5 #[.bool user, .string s, .int .i64 p] w fun e w' => e = .returned (.bool true) ∧ Bel w w' := by
  simp only [reachBytes] at hs
  by_cases h : s.size ≤ 3000
  · have d1 := Lib.hid (decS_ok user s h)
    have he0 := M.encode_decode user s.data.toList (by rw [← Lib.size_eq]; exact h)
    obtain ⟨xs, hx⟩ : ∃ xs, xs = M.decodeS user s.data.toList := ⟨_, rfl⟩
    have hbd : ∀ n ∈ xs, -9223372036854775808 ≤ n ∧ n ≤ 9223372036854775807 := by
      intro n hn
      rw [hx, M.decodeS, List.mem_map] at hn
      obtain ⟨c, _, rfl⟩ := hn
      have := pointOf_bounds user c.toNat c.toNat_lt
      omega
    rw [← hx] at d1 he0
    have l1 : xs.length = s.size := by rw [hx, decodeS_len]
    have e1 : ((xs.length : Int) != (s.size : Int)) = false := by rw [bne_eq_false_iff_eq]; omega
    have n1 : xs.length ≤ 3000 := by omega
    have He := Lib.hid he0
    clear hx l1 he0
    rcases tellsS_cases user p with ht | ⟨j, hj, ht, hp⟩
    · have Ht := Lib.hid ht
      clear ht
      go_enter Try.func5, Try.ntmps5
      go_wp2_with fail
      refine (sdec_sl user s _ _ d1.out _).mono ?_
      rintro e w1 ⟨A1, c1, rfl, o1, b1⟩
      go_wp2_with fail
      refine (singleBegun_any _).mono ?_
      rintro e w2 ⟨rfl, b2⟩
      go_wp2_with fail
      refine (senc_to user _ _ _ _ He.out _ (o1.ints.bel (by repeat (first | exact Bel.refl _ | refine Bel.drewN ?_ _ | refine Bel.drew ?_ | refine Bel.alloc ?_ _ | refine Bel.trans ?_ (by assumption) | refine Bel.setCell ?_ (by simp; omega) _))) hbd).mono ?_
      rintro e w3 ⟨rfl, b3⟩
      go_wp2_with fail
      refine (stell_to user _ _ _ Ht.out _).mono ?_
      rintro e w4 ⟨rfl, b4⟩
      go_wp2_with fail
      go_ret
      exact ⟨rfl, (by repeat (first | exact Bel.refl _ | refine Bel.drewN ?_ _ | refine Bel.drew ?_ | refine Bel.alloc ?_ _ | refine Bel.trans ?_ (by assumption) | refine Bel.setCell ?_ (by simp; omega) _))⟩
    · have Ht := Lib.hid ht
      have hcj : (UInt8.ofNat j).toNat = j := by simp; omega
      have Hd := Lib.hid (show M.decS user (⟨[UInt8.ofNat j].toArray⟩ : ByteArray).data.toList = ([p], 0) by
        rw [decS_ok user _ (by rw [size_str]; simp)]
        show ([M.pointOf user (UInt8.ofNat j).toNat], (0 : Int)) = _
        rw [hcj, hp])
      have HV := Lib.hid (show [UInt8.ofNat j].map byteVal = [.int .u8 (j : Int)] by simp [byteVal]; omega)
      clear ht hp hcj
      go_enter Try.func5, Try.ntmps5
      go_wp2_with fail
      refine (sdec_sl user s _ _ d1.out _).mono ?_
      rintro e w1 ⟨A1, c1, rfl, o1, b1⟩
      go_wp2_with fail
      refine (singleBegun_any _).mono ?_
      rintro e w2 ⟨rfl, b2⟩
      go_wp2_with fail
      refine (senc_to user _ _ _ _ He.out _ (o1.ints.bel (by repeat (first | exact Bel.refl _ | refine Bel.drewN ?_ _ | refine Bel.drew ?_ | refine Bel.alloc ?_ _ | refine Bel.trans ?_ (by assumption) | refine Bel.setCell ?_ (by simp; omega) _))) hbd).mono ?_
      rintro e w3 ⟨rfl, b3⟩
      go_wp2_with fail
      refine (stell_to user _ _ _ Ht.out _).mono ?_
      rintro e w4 ⟨rfl, b4⟩
      have ob := Own.made (B := 0) (e := 5) w4 ([UInt8.ofNat j].map byteVal) (Nat.zero_le _) (by simp [maxLen])
      rw [HV.out] at ob
      go_wp2_with (first | ((with_reducible show wpList _ _ _ _ _ _); refine wpList_toString rfl (.tmp 59) _ _ 5 rfl Try.underlying43 Try.underlying5 Try.underlying9 0 _ [UInt8.ofNat j] rfl (by rw [HV.out]; exact ob) ?_))
      refine (sdec_sl user ⟨[UInt8.ofNat j].toArray⟩ _ _ Hd.out _).mono ?_
      rintro e w5 ⟨A5, c5, rfl, o5, b5⟩
      go_wp2_with fail
      refine (sameInts_yes _ _ _ _ _ (o5.ints.bel (by repeat (first | exact Bel.refl _ | refine Bel.drewN ?_ _ | refine Bel.drew ?_ | refine Bel.alloc ?_ _ | refine Bel.trans ?_ (by assumption) | refine Bel.setCell ?_ (by simp; omega) _))) (IntSl.lit _ _ [p] (by simp)) rfl).mono ?_
      rintro e w6 ⟨rfl, b6⟩
      go_wp2_with fail
      go_ret
      exact ⟨rfl, (by repeat (first | exact Bel.refl _ | refine Bel.drewN ?_ _ | refine Bel.drew ?_ | refine Bel.alloc ?_ _ | refine Bel.trans ?_ (by assumption) | refine Bel.setCell ?_ (by simp; omega) _))⟩
  · have d1 := Lib.hid (show M.decS user s.data.toList = ([], 2) by rw [M.decS, if_pos (by rw [← Lib.size_eq]; omega)])
    go_enter Try.func5, Try.ntmps5
    go_wp2_with fail
    refine (sdec_sl user s _ _ d1.out _).mono ?_
    rintro e w1 ⟨A1, c1, rfl, o1, b1⟩
    go_wp2_with (go_at_call 32; refine (singleBegun_any _).mono ?_; rintro e w' ⟨rfl, b9⟩)
    go_ret
    exact ⟨rfl, (by repeat (first | exact Bel.refl _ | refine Bel.drewN ?_ _ | refine Bel.drew ?_ | refine Bel.alloc ?_ _ | refine Bel.trans ?_ (by assumption) | refine Bel.setCell ?_ (by simp; omega) _))⟩
end Go.Proofs.Ytmekemlhhjnjjaa

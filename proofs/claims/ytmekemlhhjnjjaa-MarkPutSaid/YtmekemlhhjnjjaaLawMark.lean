/-
  The walks of the laws on marks.
-/
import Derived.Test.YtmekemlhhjnjjaaMark
import Derived.Test.YtmekemlhhjnjjaaPlainMark
import Derived.Deep.RegionWith
namespace Go.Proofs.Ytmekemlhhjnjjaa
open Go.RowKit

theorem markBegun_any (w : World) : Calls Try.prog 21 #[] w fun e w' => e = .returned (.bool true) ∧ Bel w w' := by
  have f1 : (M.sniff [239, 187, 191, 97]).1 = 1 := by decide
  have f2 : (M.sniff [239, 187, 191, 97]).2 = 3 := by decide
  have f3 : (M.sniff [254, 255]).1 = 3 := by decide
  have f4 : (M.put 2 [120]).1 = [255, 254, 120] := by decide
  have f5 : (M.put 2 [120]).2 = 0 := by decide
  have f6 : M.may [239] = true := by decide
  have f7 : M.may [97] = false := by decide
  go_enter Try.func21, Try.ntmps21
  go_wp2_with (first | (go_at_call 23; refine (sniff_any _ _).mono ?_; rintro e w' ⟨rfl, hb⟩) | (go_at_call 22; refine (put_any _ _ _ (by decide)).mono ?_; rintro e w' ⟨rfl, hb⟩) | (go_at_call 24; refine (may_any _ _).mono ?_; rintro e w' ⟨rfl, hb⟩))
  go_ret
  exact ⟨rfl, (by repeat (first | exact Bel.refl _ | refine Bel.drewN ?_ _ | refine Bel.drew ?_ | refine Bel.alloc ?_ _ | refine Bel.trans ?_ (by assumption) | refine Bel.setCell ?_ (by simp; omega) _))⟩

theorem sniff_to (s : ByteArray) (n k : Int) (h : M.sniff s.data.toList = (n, k)) (w : World) : Calls Try.prog 23 #[.string s] w fun e w' => e = .returned (.tuple #[.int .i64 n, .int .i64 k]) ∧ Bel w w' := by
  have := sniff_any s w; rw [h] at this; exact this
theorem may_to (s : ByteArray) (b : Bool) (h : M.may s.data.toList = b) (w : World) : Calls Try.prog 24 #[.string s] w fun e w' => e = .returned (.bool b) ∧ Bel w w' := by
  have := may_any s w; rw [h] at this; exact this
theorem put_to (n : Int) (s : ByteArray) (t : List UInt8) (e : Int) (h : M.put n s.data.toList = (t, e)) (hs : s.size ≤ 9223372036854775800) (w : World) : Calls Try.prog 22 #[.int .i64 n, .string s] w fun e' w' => e' = .returned (.tuple #[.string ⟨t.toArray⟩, .int .i64 e]) ∧ Bel w w' := by
  have := put_any n s w hs; rw [h] at this; exact this

theorem markPutTrue (s more : ByteArray) (n : Int) (hs : s.size ≤ reachBytes) (hm : more.size ≤ reachBytes) (_ : -9223372036854775808 ≤ n ∧ n ≤ 9223372036854775807) (w : World) :
    Calls Try.prog 3 #[.string s, .string more, .int .i64 n] w fun e w' => e = .returned (.bool true) ∧ Bel w w' := by
  obtain ⟨⟨tl, e⟩, hput⟩ : ∃ r, M.put n s.data.toList = r := ⟨_, rfl⟩
  obtain ⟨⟨n1, k1⟩, hsn⟩ : ∃ r, M.sniff s.data.toList = r := ⟨_, rfl⟩
  simp only [reachBytes] at hs hm
  have hz : s.data.toList.length = s.size := (Lib.size_eq s).symm
  obtain ⟨⟨n2, k2⟩, hsn2⟩ : ∃ r, M.sniff (s.data.toList ++ more.data.toList) = r := ⟨_, rfl⟩
  obtain ⟨b1, hmay⟩ : ∃ b, M.may s.data.toList = b := ⟨_, rfl⟩
  have hz0 : n1 = 0 → k1 = 0 := fun h => M.sniff_none _ _ (by rw [hsn, h])
  have hno : n1 = 0 → b1 = false → n2 = 0 := fun h hb => by
    subst h
    have := M.sniff_more _ more.data.toList _ hsn (by rw [hmay, hb])
    rw [hsn2] at this
    exact (Prod.mk.inj this).1
  have hyes : n1 ≠ 0 → b1 = false ∧ n2 = n1 ∧ k2 = k1 := fun h => by
    obtain ⟨g1, g2⟩ := M.sniff_app _ more.data.toList _ _ hsn h
    rw [hsn2] at g1
    exact ⟨by rw [← hmay, g2], (Prod.mk.inj g1).1, (Prod.mk.inj g1).2⟩
  have hfound : e = 0 → s.size < tl.length → ∃ k : Nat, k ≤ 3 ∧ tl.length = s.size + k ∧ M.sniff tl = (n, (k : Int)) ∧ tl.drop k = s.data.toList := fun h hA => by
    subst h
    obtain ⟨k, g0, g1, g2, g3⟩ := M.put_found n _ _ hput (by rw [hz]; exact hA)
    exact ⟨k, g0, by omega, g2, g3⟩
  have Hput := Lib.hid hput
  have Hsn := Lib.hid hsn
  have Hmay := Lib.hid hmay
  have Hsn2 := Lib.hid (show M.sniff (s ++ more).data.toList = (n2, k2) by rw [data_append]; exact hsn2)
  clear hput hsn hmay hsn2 hz
  by_cases hA : e = 0 ∧ s.size < tl.length
  · obtain ⟨rfl, hA⟩ := hA
    obtain ⟨k, g0, g1, g2, g3⟩ := hfound rfl hA
    have hk1 : s.size + k ≤ tl.length := by omega
    have hk2 : tl.length ≤ s.size + k := by omega
    have e2 : ((k : Int) != (tl.length : Int) - (s.size : Int)) = false := by rw [bne_eq_false_iff_eq]; omega
    have G2 := Lib.hid g2
    have hx : (((⟨tl.toArray⟩ : ByteArray).extract k tl.length).toList == s.toList) = true := by
      rw [beq_iff_eq, Lib.extract_toList, Lib.toList_data]
      rw [← g3, List.take_of_length_le (by simp)]
    clear g1 g2 g3 hfound
    by_cases h1 : n1 = 0
    · subst h1
      obtain rfl := hz0 rfl
      cases b1
      · obtain rfl := hno rfl rfl
        clear hyes hno hz0
        go_enter Try.func3, Try.ntmps3
        go_wp2_with (first | (go_at_call 21; refine (markBegun_any _).mono ?_; rintro e w' ⟨rfl, hb⟩) | (go_at_call 22; refine (put_to _ _ _ _ Hput.out (by omega) _).mono ?_; rintro e w' ⟨rfl, hb⟩) | (go_at_call 24; refine (may_to _ _ Hmay.out _).mono ?_; rintro e w' ⟨rfl, hb⟩) | (go_at_call_of 23 (Value.string s); refine (sniff_to _ _ _ Hsn.out _).mono ?_; rintro e w' ⟨rfl, hb⟩) | (go_at_call_of 23 (Value.string (s ++ more)); refine (sniff_to _ _ _ Hsn2.out _).mono ?_; rintro e w' ⟨rfl, hb⟩) | (go_at_call 23; refine (sniff_to ⟨tl.toArray⟩ _ _ G2.out _).mono ?_; rintro e w' ⟨rfl, hb⟩))
        go_ret
        exact ⟨rfl, (by repeat (first | exact Bel.refl _ | refine Bel.drewN ?_ _ | refine Bel.drew ?_ | refine Bel.alloc ?_ _ | refine Bel.trans ?_ (by assumption) | refine Bel.setCell ?_ (by simp; omega) _))⟩
      · clear hyes hno hz0
        go_enter Try.func3, Try.ntmps3
        go_wp2_with (first | (go_at_call 21; refine (markBegun_any _).mono ?_; rintro e w' ⟨rfl, hb⟩) | (go_at_call 22; refine (put_to _ _ _ _ Hput.out (by omega) _).mono ?_; rintro e w' ⟨rfl, hb⟩) | (go_at_call 24; refine (may_to _ _ Hmay.out _).mono ?_; rintro e w' ⟨rfl, hb⟩) | (go_at_call_of 23 (Value.string s); refine (sniff_to _ _ _ Hsn.out _).mono ?_; rintro e w' ⟨rfl, hb⟩) | (go_at_call_of 23 (Value.string (s ++ more)); refine (sniff_to _ _ _ Hsn2.out _).mono ?_; rintro e w' ⟨rfl, hb⟩) | (go_at_call 23; refine (sniff_to ⟨tl.toArray⟩ _ _ G2.out _).mono ?_; rintro e w' ⟨rfl, hb⟩))
        go_ret
        exact ⟨rfl, (by repeat (first | exact Bel.refl _ | refine Bel.drewN ?_ _ | refine Bel.drew ?_ | refine Bel.alloc ?_ _ | refine Bel.trans ?_ (by assumption) | refine Bel.setCell ?_ (by simp; omega) _))⟩
    · obtain ⟨rfl, rfl, rfl⟩ := hyes h1
      have e1 : (n2 != 0) = true := by simpa using h1
      clear hyes hno hz0
      go_enter Try.func3, Try.ntmps3
      go_wp2_with (first | (go_at_call 21; refine (markBegun_any _).mono ?_; rintro e w' ⟨rfl, hb⟩) | (go_at_call 22; refine (put_to _ _ _ _ Hput.out (by omega) _).mono ?_; rintro e w' ⟨rfl, hb⟩) | (go_at_call 24; refine (may_to _ _ Hmay.out _).mono ?_; rintro e w' ⟨rfl, hb⟩) | (go_at_call_of 23 (Value.string s); refine (sniff_to _ _ _ Hsn.out _).mono ?_; rintro e w' ⟨rfl, hb⟩) | (go_at_call_of 23 (Value.string (s ++ more)); refine (sniff_to _ _ _ Hsn2.out _).mono ?_; rintro e w' ⟨rfl, hb⟩) | (go_at_call 23; refine (sniff_to ⟨tl.toArray⟩ _ _ G2.out _).mono ?_; rintro e w' ⟨rfl, hb⟩))
      go_ret
      exact ⟨rfl, (by repeat (first | exact Bel.refl _ | refine Bel.drewN ?_ _ | refine Bel.drew ?_ | refine Bel.alloc ?_ _ | refine Bel.trans ?_ (by assumption) | refine Bel.setCell ?_ (by simp; omega) _))⟩
  · have hA' : (e == 0) = false ∨ tl.length ≤ s.size := by
      by_cases h : e = 0
      · exact .inr (by omega)
      · exact .inl (by simpa using h)
    clear hA hfound
    by_cases h1 : n1 = 0
    · subst h1
      obtain rfl := hz0 rfl
      cases b1
      · obtain rfl := hno rfl rfl
        clear hyes hno hz0
        rcases hA' with hA | hA
        all_goals
          go_enter Try.func3, Try.ntmps3
          go_wp2_with (first | (go_at_call 21; refine (markBegun_any _).mono ?_; rintro e w' ⟨rfl, hb⟩) | (go_at_call 22; refine (put_to _ _ _ _ Hput.out (by omega) _).mono ?_; rintro e w' ⟨rfl, hb⟩) | (go_at_call 24; refine (may_to _ _ Hmay.out _).mono ?_; rintro e w' ⟨rfl, hb⟩) | (go_at_call_of 23 (Value.string s); refine (sniff_to _ _ _ Hsn.out _).mono ?_; rintro e w' ⟨rfl, hb⟩) | (go_at_call_of 23 (Value.string (s ++ more)); refine (sniff_to _ _ _ Hsn2.out _).mono ?_; rintro e w' ⟨rfl, hb⟩))
        all_goals go_ret
        all_goals exact ⟨rfl, (by repeat (first | exact Bel.refl _ | refine Bel.drewN ?_ _ | refine Bel.drew ?_ | refine Bel.alloc ?_ _ | refine Bel.trans ?_ (by assumption) | refine Bel.setCell ?_ (by simp; omega) _))⟩
      · clear hyes hno hz0
        rcases hA' with hA | hA
        all_goals
          go_enter Try.func3, Try.ntmps3
          go_wp2_with (first | (go_at_call 21; refine (markBegun_any _).mono ?_; rintro e w' ⟨rfl, hb⟩) | (go_at_call 22; refine (put_to _ _ _ _ Hput.out (by omega) _).mono ?_; rintro e w' ⟨rfl, hb⟩) | (go_at_call 24; refine (may_to _ _ Hmay.out _).mono ?_; rintro e w' ⟨rfl, hb⟩) | (go_at_call_of 23 (Value.string s); refine (sniff_to _ _ _ Hsn.out _).mono ?_; rintro e w' ⟨rfl, hb⟩) | (go_at_call_of 23 (Value.string (s ++ more)); refine (sniff_to _ _ _ Hsn2.out _).mono ?_; rintro e w' ⟨rfl, hb⟩))
        all_goals go_ret
        all_goals exact ⟨rfl, (by repeat (first | exact Bel.refl _ | refine Bel.drewN ?_ _ | refine Bel.drew ?_ | refine Bel.alloc ?_ _ | refine Bel.trans ?_ (by assumption) | refine Bel.setCell ?_ (by simp; omega) _))⟩
    · obtain ⟨rfl, rfl, rfl⟩ := hyes h1
      have e1 : (n2 != 0) = true := by simpa using h1
      clear hyes hno hz0
      rcases hA' with hA | hA
      all_goals
        go_enter Try.func3, Try.ntmps3
        go_wp2_with (first | (go_at_call 21; refine (markBegun_any _).mono ?_; rintro e w' ⟨rfl, hb⟩) | (go_at_call 22; refine (put_to _ _ _ _ Hput.out (by omega) _).mono ?_; rintro e w' ⟨rfl, hb⟩) | (go_at_call 24; refine (may_to _ _ Hmay.out _).mono ?_; rintro e w' ⟨rfl, hb⟩) | (go_at_call_of 23 (Value.string s); refine (sniff_to _ _ _ Hsn.out _).mono ?_; rintro e w' ⟨rfl, hb⟩) | (go_at_call_of 23 (Value.string (s ++ more)); refine (sniff_to _ _ _ Hsn2.out _).mono ?_; rintro e w' ⟨rfl, hb⟩))
      all_goals go_ret
      all_goals exact ⟨rfl, (by repeat (first | exact Bel.refl _ | refine Bel.drewN ?_ _ | refine Bel.drew ?_ | refine Bel.alloc ?_ _ | refine Bel.trans ?_ (by assumption) | refine Bel.setCell ?_ (by simp; omega) _))⟩
end Go.Proofs.Ytmekemlhhjnjjaa

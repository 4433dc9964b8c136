/-
  Package kana: plain, sign, shifts, the teller's two methods.
-/
import Derived.Test.YtbddfefcgfenfaaDoorUtf16
import Derived.Test.YtbddfefcgfenfaaDoorPlainKana
import Derived.RegionTactic
import Derived.BigRegion
namespace Go.Proofs.YtbddfefcgfenfaaDoor
open Go.RowKit
set_option maxRecDepth 1000000

def plainN (c : Nat) : Bool := decide (c < 128 ∧ c ≠ 14 ∧ c ≠ 15 ∧ c ≠ 27)
theorem plainK_any (c : Nat) (hc : c < 256) (w : World) : Calls Tryd.prog 193 #[.int .u8 (c : Int)] w fun e w' => e = .returned (.bool (plainN c)) ∧ w = w' := by
  by_cases h0 : c < 128
  · by_cases h1 : c = 14
    · subst h1
      go_enter Tryd.func193, Tryd.ntmps193
      go_wp2
      go_ret
      exact ⟨rfl, rfl⟩
    · by_cases h2 : c = 15
      · subst h2
        go_enter Tryd.func193, Tryd.ntmps193
        go_wp2
        go_ret
        exact ⟨rfl, rfl⟩
      · by_cases h3 : c = 27
        · subst h3
          go_enter Tryd.func193, Tryd.ntmps193
          go_wp2
          go_ret
          exact ⟨rfl, rfl⟩
        · have e1 : ((c : Int) != 14) = true := by rw [bne_iff_ne]; omega
          have e2 : ((c : Int) != 15) = true := by rw [bne_iff_ne]; omega
          have e3 : ((c : Int) != 27) = true := by rw [bne_iff_ne]; omega
          have H := Lib.hid (show plainN c = true by rw [plainN, decide_eq_true_eq]; omega)
          clear h1 h2 h3
          go_enter Tryd.func193, Tryd.ntmps193
          go_wp2
          go_ret
          rw [H.out]
          exact ⟨rfl, rfl⟩
  · have H := Lib.hid (show plainN c = false by rw [plainN, decide_eq_false_iff_not]; omega)
    have h1 : (128 : Int) ≤ (c : Int) := by omega
    go_enter Tryd.func193, Tryd.ntmps193
    go_wp2
    go_ret
    rw [H.out]
    exact ⟨rfl, rfl⟩
theorem plainK_to (c : Nat) (hc : c < 256) (b : Bool) (h : plainN c = b) (w : World) : Calls Tryd.prog 193 #[.int .u8 (c : Int)] w fun e w' => e = .returned (.bool b) ∧ w = w' := by
  have := plainK_any c hc w; rw [h] at this; exact this
theorem sign_any (g : Int) (c : Nat) (hc : c < 256) (w : World) : Calls Tryd.prog 177 #[.int .i64 g, .int .u8 (c : Int)] w fun e w' => e = .returned (.int .i64 (M.signK g c)) ∧ w = w' := by
  have HP := Lib.hid (show plainN c = plainN c from rfl)
  by_cases hA : g = 2
  · subst hA
    by_cases h1 : 33 ≤ c
    · by_cases h2 : c ≤ 95
      · have E1 := Lib.hid (show (65377 : Int) + (c : Int) - 33 = 65344 + (c : Int) by omega)
        have H := Lib.hid (show M.signK 2 c = 65377 + (c : Int) - 33 by rw [E1.out, M.signK, if_pos ⟨rfl, h1, h2⟩])
        clear HP
        go_enter Tryd.func177, Tryd.ntmps177
        go_wp2
        go_ret
        rw [H.out]
        exact ⟨rfl, rfl⟩
      · have H := Lib.hid (show M.signK 2 c = 65533 by rw [M.signK, if_neg (by omega), if_pos (.inl rfl)])
        have h3 : (95 : Int) < (c : Int) := by omega
        clear HP
        go_enter Tryd.func177, Tryd.ntmps177
        go_wp2
        go_ret
        rw [H.out]
        exact ⟨rfl, rfl⟩
    · have H := Lib.hid (show M.signK 2 c = 65533 by rw [M.signK, if_neg (by omega), if_pos (.inl rfl)])
      have h3 : (c : Int) < 33 := by omega
      clear HP
      go_enter Tryd.func177, Tryd.ntmps177
      go_wp2
      go_ret
      rw [H.out]
      exact ⟨rfl, rfl⟩
  · have e2 : (g == 2) = false := by simpa using hA
    cases hp : plainN c with
    | false =>
      have HP := Lib.hid hp
      have H := Lib.hid (show M.signK g c = 65533 by
        rw [plainN, decide_eq_false_iff_not] at hp
        rw [M.signK, if_neg (by omega), if_pos (by omega)])
      clear hp hA
      go_enter Tryd.func177, Tryd.ntmps177
      go_wp2_with (first | (go_at_call 193; refine (plainK_to _ hc _ HP.out _).mono ?_; rintro e w' ⟨rfl, rfl⟩))
      go_ret
      rw [H.out]
      exact ⟨rfl, rfl⟩
    | true =>
      have HP := Lib.hid hp
      rw [plainN, decide_eq_true_eq] at hp
      have hs : M.signK g c = if g = 1 ∧ c = 92 then 165 else if g = 1 ∧ c = 126 then 8254 else (c : Int) := by
        rw [M.signK, if_neg (by omega), if_neg (by omega)]
      by_cases hB : g = 1
      · subst hB
        by_cases h1 : c = 92
        · subst h1
          have H := Lib.hid hs
          clear hs hp
          go_enter Tryd.func177, Tryd.ntmps177
          go_wp2_with (first | (go_at_call 193; refine (plainK_to _ hc _ HP.out _).mono ?_; rintro e w' ⟨rfl, rfl⟩))
          go_ret
          rw [H.out]
          exact ⟨rfl, rfl⟩
        · by_cases h2 : c = 126
          · subst h2
            have H := Lib.hid hs
            clear hs hp
            go_enter Tryd.func177, Tryd.ntmps177
            go_wp2_with (first | (go_at_call 193; refine (plainK_to _ hc _ HP.out _).mono ?_; rintro e w' ⟨rfl, rfl⟩))
            go_ret
            rw [H.out]
            exact ⟨rfl, rfl⟩
          · have H := Lib.hid (show M.signK 1 c = (c : Int) by rw [hs, if_neg (by omega), if_neg (by omega)])
            have e3 : ((c : Int) == 92) = false := by rw [beq_eq_false_iff_ne]; omega
            have e4 : ((c : Int) == 126) = false := by rw [beq_eq_false_iff_ne]; omega
            clear hs hp h1 h2
            go_enter Tryd.func177, Tryd.ntmps177
            go_wp2_with (first | (go_at_call 193; refine (plainK_to _ hc _ HP.out _).mono ?_; rintro e w' ⟨rfl, rfl⟩))
            go_ret
            rw [H.out]
            exact ⟨rfl, rfl⟩
      · have e1 : (g == 1) = false := by simpa using hB
        have H := Lib.hid (show M.signK g c = (c : Int) by rw [hs, if_neg (by omega), if_neg (by omega)])
        clear hs hp hA hB
        go_enter Tryd.func177, Tryd.ntmps177
        go_wp2_with (first | (go_at_call 193; refine (plainK_to _ hc _ HP.out _).mono ?_; rintro e w' ⟨rfl, rfl⟩))
        go_ret
        rw [H.out]
        exact ⟨rfl, rfl⟩
theorem esc_at (x : UInt8) : M.escK x = if (66 : Int) = (x.toNat : Int) then some 0 else if (74 : Int) = (x.toNat : Int) then some 1 else if (73 : Int) = (x.toNat : Int) then some 2 else none := by
  have key : ∀ n : Nat, n < 256 → (x = UInt8.ofNat n ↔ (n : Int) = (x.toNat : Int)) := fun n hn => by
    constructor
    · rintro rfl; rw [UInt8.toNat_ofNat_of_lt' hn]
    · intro h; apply UInt8.toNat_inj.1; rw [UInt8.toNat_ofNat_of_lt' hn]; omega
  unfold M.escK
  have k1 := key 66 (by decide)
  have k2 := key 74 (by decide)
  have k3 := key 73 (by decide)
  simp only [show (UInt8.ofNat 66) = 66 from rfl, show (UInt8.ofNat 74) = 74 from rfl, show (UInt8.ofNat 73) = 73 from rfl] at k1 k2 k3
  simp only [k1, k2, k3]
  rfl
def shiftsM (t : List UInt8) : Int × Bool := match M.headK t with | some k => (k, true) | none => (-1, !M.waitK t)
theorem shifts_any (s : ByteArray) (c : UInt8) (t : List UInt8) (hs : s.data.toList = c :: t) (hsz : s.size ≤ 68719476735) (w : World) : Calls Tryd.prog 178 #[.string s] w fun e w' => e = .returned (.tuple #[.int .i64 (shiftsM t).1, .bool (shiftsM t).2]) ∧ ∃ q, w.drewN q = w' := by
  have hl : s.size = t.length + 1 := by rw [Lib.size_eq, hs]; rfl
  have c66 : (⟨#[66, 74, 73]⟩ : ByteArray)[0].toNat = 66 := rfl
  have c74 : (⟨#[66, 74, 73]⟩ : ByteArray)[1].toNat = 74 := rfl
  have c73 : (⟨#[66, 74, 73]⟩ : ByteArray)[2].toNat = 73 := rfl
  rcases t with _ | ⟨d, _ | ⟨x, u⟩⟩
  · have h1 : s.size ≤ 1 := by rw [hl]; simp
    have H := Lib.hid (show shiftsM [] = (-1, false) from rfl)
    clear hs hl
    go_enter Tryd.func178, Tryd.ntmps178
    go_wp2_with fail
    go_ret2
    rw [H.out]
    exact ⟨rfl, 0, rfl⟩
  · obtain ⟨k1, h1⟩ := head_at s 1 d (by rw [hs]; rfl)
    have hle : s.size ≤ 2 := by rw [hl]; simp
    clear hs hl
    by_cases hd : d = 40
    · subst hd
      have H := Lib.hid (show shiftsM [40] = (-1, false) from rfl)
      go_enter Tryd.func178, Tryd.ntmps178
      go_wp2_with fail
      go_ret2
      rw [H.out]
      exact ⟨rfl, 0, rfl⟩
    · have e1 : ((d.toNat : Int) != 40) = true := by
        rw [bne_iff_ne]; intro hh; apply hd; apply UInt8.toNat_inj.1; show d.toNat = 40; omega
      have H := Lib.hid (show shiftsM [d] = (-1, true) by simp [shiftsM, M.headK, M.waitK, hd])
      clear hd
      go_enter Tryd.func178, Tryd.ntmps178
      go_wp2_with fail
      go_ret2
      rw [H.out]
      exact ⟨rfl, 0, rfl⟩
  · obtain ⟨k1, h1⟩ := head_at s 1 d (by rw [hs]; rfl)
    obtain ⟨k2, h2⟩ := head_at s 2 x (by rw [hs]; rfl)
    have hge : 3 ≤ s.size := by simp only [List.length_cons] at hl; omega
    clear hs hl
    by_cases hd : d = 40
    · subst hd
      have hM : shiftsM (40 :: x :: u) = match M.escK x with | some k => (k, true) | none => (-1, true) := by
        simp only [shiftsM, M.headK, if_true, M.waitK]
        cases M.escK x <;> simp
      rw [esc_at] at hM
      have hxl := x.toNat_lt
      by_cases g1 : (66 : Int) = (x.toNat : Int)
      · have H := Lib.hid (show shiftsM (40 :: x :: u) = (0, true) by rw [hM, if_pos g1])
        have e1 : ((66 : Int) == (x.toNat : Int)) = true := by simpa using g1
        clear hM g1
        go_enter Tryd.func178, Tryd.ntmps178
        go_wp2_with fail
        refine wp_loop_rounds 4 ?_
        rw [rounds_succ]
        go_wp2_with fail
        all_goals try (go_quiet (fail); go_wp2_with fail)
        all_goals try (rw [rounds_succ]; go_wp2_with fail)
        all_goals try (go_quiet (fail); go_wp2_with fail)
        all_goals try (rw [rounds_succ]; go_wp2_with fail)
        all_goals try (go_quiet (fail); go_wp2_with fail)
        all_goals try (rw [rounds_succ]; go_wp2_with fail)
        go_ret2
        rw [H.out]
        refine ⟨rfl, ?_⟩
        try simp only [World.drewN_drewN]
        exact ⟨_, rfl⟩
      · have e1 : ((66 : Int) == (x.toNat : Int)) = false := by simpa using g1
        rw [if_neg g1] at hM
        by_cases g2 : (74 : Int) = (x.toNat : Int)
        · have H := Lib.hid (show shiftsM (40 :: x :: u) = (1, true) by rw [hM, if_pos g2])
          have e2 : ((74 : Int) == (x.toNat : Int)) = true := by simpa using g2
          clear hM g1 g2
          go_enter Tryd.func178, Tryd.ntmps178
          go_wp2_with fail
          refine wp_loop_rounds 4 ?_
          rw [rounds_succ]
          go_wp2_with fail
          all_goals try (go_quiet (fail); go_wp2_with fail)
          all_goals try (rw [rounds_succ]; go_wp2_with fail)
          all_goals try (go_quiet (fail); go_wp2_with fail)
          all_goals try (rw [rounds_succ]; go_wp2_with fail)
          all_goals try (go_quiet (fail); go_wp2_with fail)
          all_goals try (rw [rounds_succ]; go_wp2_with fail)
          go_ret2
          rw [H.out]
          refine ⟨rfl, ?_⟩
          try simp only [World.drewN_drewN]
          exact ⟨_, rfl⟩
        · have e2 : ((74 : Int) == (x.toNat : Int)) = false := by simpa using g2
          rw [if_neg g2] at hM
          by_cases g3 : (73 : Int) = (x.toNat : Int)
          · have H := Lib.hid (show shiftsM (40 :: x :: u) = (2, true) by rw [hM, if_pos g3])
            have e3 : ((73 : Int) == (x.toNat : Int)) = true := by simpa using g3
            clear hM g1 g2 g3
            go_enter Tryd.func178, Tryd.ntmps178
            go_wp2_with fail
            refine wp_loop_rounds 4 ?_
            rw [rounds_succ]
            go_wp2_with fail
            all_goals try (go_quiet (fail); go_wp2_with fail)
            all_goals try (rw [rounds_succ]; go_wp2_with fail)
            all_goals try (go_quiet (fail); go_wp2_with fail)
            all_goals try (rw [rounds_succ]; go_wp2_with fail)
            all_goals try (go_quiet (fail); go_wp2_with fail)
            all_goals try (rw [rounds_succ]; go_wp2_with fail)
            go_ret2
            rw [H.out]
            refine ⟨rfl, ?_⟩
            try simp only [World.drewN_drewN]
            exact ⟨_, rfl⟩
          · have H := Lib.hid (show shiftsM (40 :: x :: u) = (-1, true) by rw [hM, if_neg g3])
            have e3 : ((73 : Int) == (x.toNat : Int)) = false := by simpa using g3
            clear hM g1 g2 g3
            go_enter Tryd.func178, Tryd.ntmps178
            go_wp2_with fail
            refine wp_loop_rounds 4 ?_
            rw [rounds_succ]
            go_wp2_with fail
            all_goals try (go_quiet (fail); go_wp2_with fail)
            all_goals try (rw [rounds_succ]; go_wp2_with fail)
            all_goals try (go_quiet (fail); go_wp2_with fail)
            all_goals try (rw [rounds_succ]; go_wp2_with fail)
            all_goals try (go_quiet (fail); go_wp2_with fail)
            all_goals try (rw [rounds_succ]; go_wp2_with fail)
            go_ret2
            rw [H.out]
            refine ⟨rfl, ?_⟩
            try simp only [World.drewN_drewN]
            exact ⟨_, rfl⟩
    · have e1 : ((d.toNat : Int) != 40) = true := by
        rw [bne_iff_ne]; intro hh; apply hd; apply UInt8.toNat_inj.1; show d.toNat = 40; omega
      have H := Lib.hid (show shiftsM (d :: x :: u) = (-1, true) by simp [shiftsM, M.headK, M.waitK, hd])
      clear hd
      go_enter Tryd.func178, Tryd.ntmps178
      go_wp2_with fail
      go_ret2
      rw [H.out]
      exact ⟨rfl, 0, rfl⟩
theorem below_set {g : Nat} {a w : World} (h : Below g a w) (i : Nat) (u : Value) : Below g a (w.setCell ⟨g, i, none⟩ u) := Below.setCell h (Nat.le_refl _) u
/-- What a teller tells: one code point for one byte. -/
theorem tellK_any (g : Nat) (sg : Int) (fr : Bool) (s : ByteArray) (v : Value) (xs : List Int) (n : Int) (B : Nat) (w : World) (hB : Box w g 172 [.int .i64 sg, .bool fr, .string s, v]) (hown : Own B 3 w v (xs.map (Value.int .i64))) (hg : g < B) (hBw : B ≤ w.heap.size) (hpos : 0 < s.size) (hsz : s.size ≤ 68719476735) (hl : xs.length < 68719476736) :
    Calls Tryd.prog 176 #[.pointer (some ⟨g, 0, none⟩), .int .i64 n] w fun e w' => e = .returned (.tuple #[]) ∧ ∃ v', Box w' g 172 [.int .i64 sg, .bool false, .string (s.extract 1 s.size), v'] ∧ Own B 3 w' v' ((xs ++ [n]).map (Value.int .i64)) ∧ Below g w w' := by
  have c1 := hB.cell 3 _ rfl
  go_enter Tryd.func176, Tryd.ntmps176
  go_wp2_with (first | ((at_builtin; refine wpList_app rfl (.tmp 8) (.tmp 10) 36 rfl elemInt (by decide) B _ _ _ rfl rfl hown rfl (by simp; omega) (by first | exact Nat.le_refl _ | assumption | (have := hb.size; omega)) ?_; intro v' w1 hown' hb1); have h3 := hB.upto hb1 hg; have d0 := h3.cell 0 _ rfl; have d1 := h3.cell 1 _ rfl; have d2 := h3.cell 2 _ rfl; have d3 := h3.cell 3 _ rfl; have e0 := h3.frozen 0; have e1 := h3.frozen 1; have e2 := h3.frozen 2; have e3 := h3.frozen 3; obtain ⟨A', c', hv', _⟩ := hown'.form; simp at hv'; subst hv'))
  go_end0
  refine ⟨rfl, _, ((h3.set 3 _).set 2 _).set 1 _, ?_, ?_⟩
  · rw [List.map_append]
    exact ((hown'.setCell (p := ⟨g, 3, none⟩) hg _).setCell (p := ⟨g, 2, none⟩) hg _).setCell (p := ⟨g, 1, none⟩) hg _
  · exact below_set (below_set (below_set (Below.mono hb1 (Nat.le_of_lt hg)) _ _) _ _) _ _
theorem shiftK_any (g : Nat) (sg k : Int) (fr : Bool) (s : ByteArray) (v : Value) (xs : List Int) (B : Nat) (w : World) (hB : Box w g 172 [.int .i64 sg, .bool fr, .string s, v]) (hown : Own B 3 w v (xs.map (Value.int .i64))) (hg : g < B) (hBw : B ≤ w.heap.size) (hpos : 3 ≤ s.size) (hsz : s.size ≤ 68719476735) (hl : xs.length < 68719476736) :
    Calls Tryd.prog 179 #[.pointer (some ⟨g, 0, none⟩), .int .i64 k] w fun e w' => e = .returned (.tuple #[]) ∧ ∃ v', Box w' g 172 [.int .i64 k, .bool true, .string (s.extract 3 s.size), v'] ∧ Own B 3 w' v' ((xs ++ if fr = true then [65533] else []).map (Value.int .i64)) ∧ Below g w w' := by
  have c0 := hB.cell 0 _ rfl
  have c1 := hB.cell 1 _ rfl
  have c2 := hB.cell 2 _ rfl
  have c3 := hB.cell 3 _ rfl
  have f0 := hB.frozen 0
  have f1 := hB.frozen 1
  have f2 := hB.frozen 2
  have f3 := hB.frozen 3
  cases fr with
  | false =>
    go_enter Tryd.func179, Tryd.ntmps179
    go_wp2_with fail
    go_end0
    refine ⟨rfl, _, ((hB.set 0 _).set 1 _).set 2 _, ?_, ?_⟩
    · exact ((hown.setCell (p := ⟨g, 0, none⟩) hg _).setCell (p := ⟨g, 1, none⟩) hg _).setCell (p := ⟨g, 2, none⟩) hg _
    · exact below_set (below_set (below_set (Below.refl _ _) _ _) _ _) _ _
  | true =>
    go_enter Tryd.func179, Tryd.ntmps179
    go_wp2_with (first | ((at_builtin; refine wpList_app rfl (.tmp 13) (.tmp 14) 36 rfl elemInt (by decide) B _ _ _ rfl rfl hown rfl (by simp; omega) (by first | exact Nat.le_refl _ | assumption | (have := hb.size; omega)) ?_; intro v' w1 hown' hb1); have h3 := hB.upto hb1 hg; have d0 := h3.cell 0 _ rfl; have d1 := h3.cell 1 _ rfl; have d2 := h3.cell 2 _ rfl; have d3 := h3.cell 3 _ rfl; have e0 := h3.frozen 0; have e1 := h3.frozen 1; have e2 := h3.frozen 2; have e3 := h3.frozen 3; obtain ⟨A', c', hv', _⟩ := hown'.form; simp at hv'; subst hv'))
    go_end0
    refine ⟨rfl, _, (((h3.set 3 _).set 0 _).set 1 _).set 2 _, ?_, ?_⟩
    · exact (((hown'.setCell (p := ⟨g, 3, none⟩) hg _).setCell (p := ⟨g, 0, none⟩) hg _).setCell (p := ⟨g, 1, none⟩) hg _).setCell (p := ⟨g, 2, none⟩) hg _
    · exact below_set (below_set (below_set (below_set (Below.mono hb1 (Nat.le_of_lt hg)) _ _) _ _) _ _) _ _
end Go.Proofs.YtbddfefcgfenfaaDoor

/-
  Texts of the proof, laid together: Up, PlainFront2, Front2, Front3, Front4, Front5. No condition of its own.
-/
import Derived.Test.YteingkjdemlhgaaGreatDoorG2
import Derived.BigQuiet
import Derived.Test.YteingkjdemlhgaaGreatDoorG4
import Derived.Test.YteingkjdemlhgaaGreatDoorG8
import Derived.Test.YteingkjdemlhgaaGreatDoorG10

/-
  A region that draws its order, whose calls make memory of their own and hand back one value: one walk in the order of the text serves every order. The class of worlds: those in which nothing that is old has changed.
-/
namespace Go.Proofs.YteingkjdemlhgaaGreatDoor
open Go.RowKit
/-- The worlds in which nothing of w has changed. -/
def Up (w : World) : Type := { W : World // Bel w W }
def Up.v {w : World} (u : Up w) : World := u.1
theorem Up.b {w : World} (u : Up w) : Bel w u.v := u.2
instance {w : World} : Nonempty (Up w) := ⟨⟨w, Bel.refl w⟩⟩
theorem region_up {id : Nat} {Q : Exit → Act → World → Prop} {a : Act} {w : World} {l : List Oper} (hm : (Tryz.prog).follows .mixedOrders = true) (hB : Region.lexB .any l.toArray = true)
    (h : wpQuiet Tryz.prog l.toArray (fun w' => ∃ u : Up w, w' = u.v) (fun a' => ∀ w', (∃ u : Up w, w' = u.v) → Q .normal a' w') l a) : (Code.region id l.toArray true).wp Tryz.prog Q a w :=
  wp_region_quiet (C := fun w' => ∃ u : Up w, w' = u.v) hm hB ⟨⟨_, (Bel.refl w).drew⟩, rfl⟩ (by simpa using h)
/-- A contract of a call in such a region. -/
theorem up_call {f : FuncId} {args : Array Value} {w : World} {v : Value} (u : Up w) (h : Calls Tryz.prog f args u.v fun e w' => e = .returned v ∧ Bel u.v w') : Calls Tryz.prog f args u.v fun e w'' => e = .returned v ∧ ∃ u' : Up w, w'' = u'.v :=
  h.mono fun _ _ ⟨he, hb⟩ => ⟨he, ⟨⟨_, u.b.trans hb⟩, rfl⟩⟩
theorem Box.up {w : World} {g : Nat} {t : TypeId} {cs : List Value} (h : Box w g t cs) (i : Nat) (v : Value) (hv : cs[i]? = some v) (u : Up w) : u.v.cell? ⟨g, i, none⟩ = some v := (h.bel u.b).cell i v hv
end Go.Proofs.YteingkjdemlhgaaGreatDoor

/-
  The cases of a front's check, in plain terms.
-/
namespace Go.Proofs.YteingkjdemlhgaaGreatDoor.M
open Go
theorem isEnc_iff (n : Int) : isEnc n = true ↔ 1 ≤ n ∧ n ≤ 7 := by unfold isEnc; rw [decide_eq_true_eq]
theorem isEnc_not (n : Int) : isEnc n = false ↔ n < 1 ∨ 7 < n := by unfold isEnc; rw [decide_eq_false_iff_not]; omega
/-- What is wrong behind the lengths. -/
def wrongF (f : Ft) : Int :=
  if f.enc ≠ 0 ∧ isEnc f.enc = false then 6
  else if f.why < 0 ∨ 4 < f.why ∨ (decide (f.why = 0) != decide (f.enc = 0)) = true then 4
  else if (f.why = 0 ∧ emptySt f.state = false) ∨ (f.why ≠ 0 ∧ (f.wait ≠ [] ∨ f.state.enc ≠ f.enc)) then 1
  else if f.why = 0 then (if enough f.label f.wait = true then 4 else 0)
  else checkM f.state
theorem checkF_wrong (f : Ft) : checkF f = if 3000 < f.label.length ∨ 3000 < f.wait.length then 2 else wrongF f := rfl
theorem wrong_cases (f : Ft) :
    ((f.enc < 0 ∨ 7 < f.enc) ∧ wrongF f = 6) ∨
    ((f.enc = 0 ∨ (1 ≤ f.enc ∧ f.enc ≤ 7)) ∧ (f.why < 0 ∨ 4 < f.why) ∧ wrongF f = 4) ∨
    (f.enc = 0 ∧ (1 ≤ f.why ∧ f.why ≤ 4) ∧ wrongF f = 4) ∨
    ((1 ≤ f.enc ∧ f.enc ≤ 7) ∧ f.why = 0 ∧ wrongF f = 4) ∨
    (f.enc = 0 ∧ f.why = 0 ∧ emptySt f.state = false ∧ wrongF f = 1) ∨
    (f.enc = 0 ∧ f.why = 0 ∧ emptySt f.state = true ∧ enough f.label f.wait = true ∧ wrongF f = 4) ∨
    (f.enc = 0 ∧ f.why = 0 ∧ emptySt f.state = true ∧ enough f.label f.wait = false ∧ wrongF f = 0) ∨
    ((1 ≤ f.enc ∧ f.enc ≤ 7) ∧ (1 ≤ f.why ∧ f.why ≤ 4) ∧ f.wait ≠ [] ∧ wrongF f = 1) ∨
    ((1 ≤ f.enc ∧ f.enc ≤ 7) ∧ (1 ≤ f.why ∧ f.why ≤ 4) ∧ f.wait = [] ∧ f.state.enc ≠ f.enc ∧ wrongF f = 1) ∨
    ((1 ≤ f.enc ∧ f.enc ≤ 7) ∧ (1 ≤ f.why ∧ f.why ≤ 4) ∧ f.wait = [] ∧ f.state.enc = f.enc ∧ wrongF f = checkM f.state) := by
  by_cases he : f.enc = 0
  · have hi : isEnc f.enc = false := (isEnc_not _).2 (by omega)
    by_cases hw : f.why < 0 ∨ 4 < f.why
    · refine .inr (.inl ⟨.inl he, hw, ?_⟩)
      rw [wrongF, if_neg (fun h => h.1 he), if_pos (by rcases hw with h | h; exact .inl h; exact .inr (.inl h))]
    · by_cases hy : f.why = 0
      · have n2 : ¬ (f.why < 0 ∨ 4 < f.why ∨ (decide (f.why = 0) != decide (f.enc = 0)) = true) := by
          rw [hy, he]; simp
        cases hs : emptySt f.state with
        | false =>
          refine .inr (.inr (.inr (.inr (.inl ⟨he, hy, rfl, ?_⟩))))
          rw [wrongF, if_neg (fun h => h.1 he), if_neg n2, if_pos (.inl ⟨hy, hs⟩)]
        | true =>
          have n3 : ¬ ((f.why = 0 ∧ emptySt f.state = false) ∨ (f.why ≠ 0 ∧ (f.wait ≠ [] ∨ f.state.enc ≠ f.enc))) := by
            rw [hs]; rintro (h | h)
            · cases h.2
            · exact h.1 hy
          cases hen : enough f.label f.wait with
          | true =>
            refine .inr (.inr (.inr (.inr (.inr (.inl ⟨he, hy, rfl, rfl, ?_⟩)))))
            rw [wrongF, if_neg (fun h => h.1 he), if_neg n2, if_neg n3, if_pos hy, if_pos hen]
          | false =>
            refine .inr (.inr (.inr (.inr (.inr (.inr (.inl ⟨he, hy, rfl, rfl, ?_⟩))))))
            rw [wrongF, if_neg (fun h => h.1 he), if_neg n2, if_neg n3, if_pos hy, if_neg (by rw [hen]; decide)]
      · refine .inr (.inr (.inl ⟨he, by omega, ?_⟩))
        rw [wrongF, if_neg (fun h => h.1 he), if_pos (.inr (.inr (by rw [he]; simp [hy])))]
  · cases hi : isEnc f.enc with
    | false =>
      refine .inl ⟨?_, ?_⟩
      · have := (isEnc_not _).1 hi; omega
      · rw [wrongF, if_pos ⟨he, hi⟩]
    | true =>
      have hb := (isEnc_iff _).1 hi
      have n1 : ¬ (f.enc ≠ 0 ∧ isEnc f.enc = false) := fun h => by rw [hi] at h; cases h.2
      by_cases hw : f.why < 0 ∨ 4 < f.why
      · refine .inr (.inl ⟨.inr hb, hw, ?_⟩)
        rw [wrongF, if_neg n1, if_pos (by rcases hw with h | h; exact .inl h; exact .inr (.inl h))]
      · by_cases hy : f.why = 0
        · refine .inr (.inr (.inr (.inl ⟨hb, hy, ?_⟩)))
          rw [wrongF, if_neg n1, if_pos (.inr (.inr (by rw [hy]; simp [he])))]
        · have n2 : ¬ (f.why < 0 ∨ 4 < f.why ∨ (decide (f.why = 0) != decide (f.enc = 0)) = true) := by
            rintro (h | h | h)
            · exact hw (.inl h)
            · exact hw (.inr h)
            · simp [hy, he] at h
          by_cases h1 : f.wait = []
          · by_cases h2 : f.state.enc = f.enc
            · refine .inr (.inr (.inr (.inr (.inr (.inr (.inr (.inr (.inr ⟨hb, by omega, h1, h2, ?_⟩))))))))
              rw [wrongF, if_neg n1, if_neg n2, if_neg (by rintro (h | h); exact hy h.1; exact h.2.elim (fun h9 => h9 h1) (fun h9 => h9 h2)), if_neg hy]
            · refine .inr (.inr (.inr (.inr (.inr (.inr (.inr (.inr (.inl ⟨hb, by omega, h1, h2, ?_⟩))))))))
              rw [wrongF, if_neg n1, if_neg n2, if_pos (.inr ⟨hy, .inr h2⟩)]
          · refine .inr (.inr (.inr (.inr (.inr (.inr (.inr (.inl ⟨hb, by omega, h1, ?_⟩)))))))
            rw [wrongF, if_neg n1, if_neg n2, if_pos (.inr ⟨hy, .inl h1⟩)]
theorem emptySt_iff (d : St) : emptySt d = true ↔ d = zst := by
  obtain ⟨a, b, c, e, f⟩ := d
  unfold emptySt zst
  cases e <;> cases f <;> simp [and_assoc]
/-- What a right front is. -/
theorem right_front (f : Ft) (h : checkF f = 0) : f.label.length ≤ 3000 ∧
    ((f.enc = 0 ∧ f.why = 0 ∧ f.state = zst ∧ enough f.label f.wait = false ∧ f.wait.length < 256) ∨
     ((1 ≤ f.enc ∧ f.enc ≤ 7) ∧ (1 ≤ f.why ∧ f.why ≤ 4) ∧ f.wait = [] ∧ f.state.enc = f.enc ∧ checkM f.state = 0)) := by
  rw [checkF_wrong] at h
  by_cases hl : 3000 < f.label.length ∨ 3000 < f.wait.length
  · rw [if_pos hl] at h; cases h
  · rw [if_neg hl] at h
    refine ⟨by omega, ?_⟩
    rcases wrong_cases f with ⟨_, e⟩ | ⟨_, _, e⟩ | ⟨_, _, e⟩ | ⟨_, _, e⟩ | ⟨_, _, _, e⟩ | ⟨_, _, _, _, e⟩ | ⟨h1, h2, h3, h4, e⟩ | ⟨_, _, _, e⟩ | ⟨_, _, _, _, e⟩ | ⟨h1, h2, h3, h4, e⟩
    all_goals rw [e] at h
    all_goals try (exact absurd h (by decide))
    · refine .inl ⟨h1, h2, (emptySt_iff _).1 h3, h4, ?_⟩
      unfold enough at h4
      rw [Bool.or_eq_false_iff, decide_eq_false_iff_not, decide_eq_false_iff_not] at h4
      have := h4.2
      split at this <;> omega
    · exact .inr ⟨h1, h2, h3, h4, h⟩
end Go.Proofs.YteingkjdemlhgaaGreatDoor.M

/-
  Package front: empty, wrong, Check.
-/
namespace Go.Proofs.YteingkjdemlhgaaGreatDoor
open Go.RowKit
set_option maxRecDepth 1000000
set_option maxHeartbeats 2000000
theorem isF_to (n : Int) (b : Bool) (h : M.isEnc n = b) (w : World) : Calls Tryz.prog 54 #[.int .i64 n] w fun e w' => e = .returned (.bool b) ∧ w = w' := by
  have := isEnc_any n w; rw [h] at this; exact this
theorem emptyF_to (se : Int) (rs : ByteArray) (sg : Int) (fr st : Bool) (b : Bool) (h : M.emptySt ⟨se, rs.data.toList, sg, fr, st⟩ = b) (w : World) : Calls Tryz.prog 101 #[.agg #[.int .i64 se, .string rs, .int .i64 sg, .bool fr, .bool st]] w fun e w' => e = .returned (.bool b) ∧ Bel w w' := by
  have hS := Box.new w 23 [.int .i64 se, .string rs, .int .i64 sg, .bool fr, .bool st]
  have c0 := hS.cell 0 _ rfl
  have c1 := hS.cell 1 _ rfl
  have c2 := hS.cell 2 _ rfl
  have c3 := hS.cell 3 _ rfl
  have c4 := hS.cell 4 _ rfl
  have HR := Lib.hid h
  clear h
  go_enter Tryz.func101, Tryz.ntmps101
  go_wp2_with fail
  all_goals go_ret
  all_goals refine ⟨?_, (by repeat (first | exact Bel.refl _ | refine Bel.drewN ?_ _ | refine Bel.drew ?_ | refine Bel.alloc ?_ _ | refine Bel.trans ?_ (by assumption) | refine Bel.setCell ?_ (by simp; omega) _))⟩
  all_goals rw [← HR.out]
  all_goals simp_all [M.emptySt, Lib.toList_data]
theorem wrong_to (g : Nat) (lb : ByteArray) (en wy : Int) (wt : ByteArray) (se : Int) (rs : ByteArray) (sg : Int) (fr st : Bool) (k : Int) (hk : M.wrongF ⟨lb.data.toList, en, wy, wt.data.toList, ⟨se, rs.data.toList, sg, fr, st⟩⟩ = k) (hl : lb.size ≤ 68719476735) (w : World)
    (hB : Box w g 78 [.string lb, .int .i64 en, .int .i64 wy, .string wt, .int .i64 se, .string rs, .int .i64 sg, .bool fr, .bool st]) : Calls Tryz.prog 70 #[.pointer (some ⟨g, 0, none⟩)] w fun e w' => e = .returned (.int .i64 k) ∧ Bel w w' := by
  have hb := Bel.refl w
  have c0 := hB.cell 0 _ rfl; have c1 := hB.cell 1 _ rfl; have c2 := hB.cell 2 _ rfl; have c3 := hB.cell 3 _ rfl; have c4 := hB.cell 4 _ rfl; have c5 := hB.cell 5 _ rfl; have c6 := hB.cell 6 _ rfl; have c7 := hB.cell 7 _ rfl; have c8 := hB.cell 8 _ rfl; have u0 := Box.up hB 0 _ rfl; have u1 := Box.up hB 1 _ rfl; have u2 := Box.up hB 2 _ rfl; have u3 := Box.up hB 3 _ rfl; have u4 := Box.up hB 4 _ rfl; have u5 := Box.up hB 5 _ rfl; have u6 := Box.up hB 6 _ rfl; have u7 := Box.up hB 7 _ rfl; have u8 := Box.up hB 8 _ rfl
  have hk2 := hk
  have hc := M.wrong_cases ⟨lb.data.toList, en, wy, wt.data.toList, ⟨se, rs.data.toList, sg, fr, st⟩⟩
  rw [hk] at hc
  simp only at hc
  rcases hc with ⟨h1, rfl⟩ | ⟨h1, h2, rfl⟩ | ⟨rfl, h2, rfl⟩ | ⟨h1, rfl, rfl⟩ | ⟨rfl, rfl, h3, rfl⟩ | ⟨rfl, rfl, h3, h4, rfl⟩ | ⟨rfl, rfl, h3, h4, rfl⟩ | ⟨h1, h2, h3, rfl⟩ | ⟨h1, h2, h3, h4, rfl⟩ | ⟨h1, h2, h3, rfl, h5⟩
  · have g1 : (en != 0) = true := by simp; omega
    have HI := Lib.hid ((M.isEnc_not en).2 (by omega))
    clear h1
    clear hk
    go_enter Tryz.func70, Tryz.ntmps70
    repeat (go_wp2_with (first | (go_at_call 54; refine (isF_to _ _ HI.out _).mono ?_; rintro e w' ⟨rfl, rfl⟩) | (go_at_call 101; refine (emptyF_to _ _ _ _ _ _ HE.out _).mono ?_; rintro e w' ⟨rfl, b1⟩; have hb := hb.trans b1; have hB := hB.bel b1; clear b1; have c0 := hB.cell 0 _ rfl; have c1 := hB.cell 1 _ rfl; have c2 := hB.cell 2 _ rfl; have c3 := hB.cell 3 _ rfl; have c4 := hB.cell 4 _ rfl; have c5 := hB.cell 5 _ rfl; have c6 := hB.cell 6 _ rfl; have c7 := hB.cell 7 _ rfl; have c8 := hB.cell 8 _ rfl; have u0 := Box.up hB 0 _ rfl; have u1 := Box.up hB 1 _ rfl; have u2 := Box.up hB 2 _ rfl; have u3 := Box.up hB 3 _ rfl; have u4 := Box.up hB 4 _ rfl; have u5 := Box.up hB 5 _ rfl; have u6 := Box.up hB 6 _ rfl; have u7 := Box.up hB 7 _ rfl; have u8 := Box.up hB 8 _ rfl) | (go_at_call 42; refine (check_any _ _ _ _ _ _ HQ.out _).mono ?_; rintro e w' ⟨rfl, b1⟩; have hb := hb.trans b1; have hB := hB.bel b1; clear b1; have c0 := hB.cell 0 _ rfl; have c1 := hB.cell 1 _ rfl; have c2 := hB.cell 2 _ rfl; have c3 := hB.cell 3 _ rfl; have c4 := hB.cell 4 _ rfl; have c5 := hB.cell 5 _ rfl; have c6 := hB.cell 6 _ rfl; have c7 := hB.cell 7 _ rfl; have c8 := hB.cell 8 _ rfl; have u0 := Box.up hB 0 _ rfl; have u1 := Box.up hB 1 _ rfl; have u2 := Box.up hB 2 _ rfl; have u3 := Box.up hB 3 _ rfl; have u4 := Box.up hB 4 _ rfl; have u5 := Box.up hB 5 _ rfl; have u6 := Box.up hB 6 _ rfl; have u7 := Box.up hB 7 _ rfl; have u8 := Box.up hB 8 _ rfl)); refine region_up (by kernel_rfl) (by kernel_rfl) ?_; (repeat (go_big_quiet_step ((go_at_call 72; exact up_call _ (enough_to _ _ _ HN.out hl _))))); refine wpQuiet_nil ?_; intro _ hw'; obtain ⟨uu, rfl⟩ := hw'; have b1 := uu.b; generalize uu.v = wu at *; clear uu; have hb := hb.trans b1; have hB := hB.bel b1; clear b1; have c0 := hB.cell 0 _ rfl; have c1 := hB.cell 1 _ rfl; have c2 := hB.cell 2 _ rfl; have c3 := hB.cell 3 _ rfl; have c4 := hB.cell 4 _ rfl; have c5 := hB.cell 5 _ rfl; have c6 := hB.cell 6 _ rfl; have c7 := hB.cell 7 _ rfl; have c8 := hB.cell 8 _ rfl; have u0 := Box.up hB 0 _ rfl; have u1 := Box.up hB 1 _ rfl; have u2 := Box.up hB 2 _ rfl; have u3 := Box.up hB 3 _ rfl; have u4 := Box.up hB 4 _ rfl; have u5 := Box.up hB 5 _ rfl; have u6 := Box.up hB 6 _ rfl; have u7 := Box.up hB 7 _ rfl; have u8 := Box.up hB 8 _ rfl)
    go_wp2_with (first | (go_at_call 54; refine (isF_to _ _ HI.out _).mono ?_; rintro e w' ⟨rfl, rfl⟩) | (go_at_call 101; refine (emptyF_to _ _ _ _ _ _ HE.out _).mono ?_; rintro e w' ⟨rfl, b1⟩; have hb := hb.trans b1; have hB := hB.bel b1; clear b1; have c0 := hB.cell 0 _ rfl; have c1 := hB.cell 1 _ rfl; have c2 := hB.cell 2 _ rfl; have c3 := hB.cell 3 _ rfl; have c4 := hB.cell 4 _ rfl; have c5 := hB.cell 5 _ rfl; have c6 := hB.cell 6 _ rfl; have c7 := hB.cell 7 _ rfl; have c8 := hB.cell 8 _ rfl; have u0 := Box.up hB 0 _ rfl; have u1 := Box.up hB 1 _ rfl; have u2 := Box.up hB 2 _ rfl; have u3 := Box.up hB 3 _ rfl; have u4 := Box.up hB 4 _ rfl; have u5 := Box.up hB 5 _ rfl; have u6 := Box.up hB 6 _ rfl; have u7 := Box.up hB 7 _ rfl; have u8 := Box.up hB 8 _ rfl) | (go_at_call 42; refine (check_any _ _ _ _ _ _ HQ.out _).mono ?_; rintro e w' ⟨rfl, b1⟩; have hb := hb.trans b1; have hB := hB.bel b1; clear b1; have c0 := hB.cell 0 _ rfl; have c1 := hB.cell 1 _ rfl; have c2 := hB.cell 2 _ rfl; have c3 := hB.cell 3 _ rfl; have c4 := hB.cell 4 _ rfl; have c5 := hB.cell 5 _ rfl; have c6 := hB.cell 6 _ rfl; have c7 := hB.cell 7 _ rfl; have c8 := hB.cell 8 _ rfl; have u0 := Box.up hB 0 _ rfl; have u1 := Box.up hB 1 _ rfl; have u2 := Box.up hB 2 _ rfl; have u3 := Box.up hB 3 _ rfl; have u4 := Box.up hB 4 _ rfl; have u5 := Box.up hB 5 _ rfl; have u6 := Box.up hB 6 _ rfl; have u7 := Box.up hB 7 _ rfl; have u8 := Box.up hB 8 _ rfl))
    go_ret
    exact ⟨rfl, hb⟩
  · rcases h1 with rfl | h1
    · rcases h2 with h2 | h2
      · have g3 : decide (wy < 0) = true := by simp; omega
        clear h2
        clear hk
        go_enter Tryz.func70, Tryz.ntmps70
        repeat (go_wp2_with (first | (go_at_call 54; refine (isF_to _ _ HI.out _).mono ?_; rintro e w' ⟨rfl, rfl⟩) | (go_at_call 101; refine (emptyF_to _ _ _ _ _ _ HE.out _).mono ?_; rintro e w' ⟨rfl, b1⟩; have hb := hb.trans b1; have hB := hB.bel b1; clear b1; have c0 := hB.cell 0 _ rfl; have c1 := hB.cell 1 _ rfl; have c2 := hB.cell 2 _ rfl; have c3 := hB.cell 3 _ rfl; have c4 := hB.cell 4 _ rfl; have c5 := hB.cell 5 _ rfl; have c6 := hB.cell 6 _ rfl; have c7 := hB.cell 7 _ rfl; have c8 := hB.cell 8 _ rfl; have u0 := Box.up hB 0 _ rfl; have u1 := Box.up hB 1 _ rfl; have u2 := Box.up hB 2 _ rfl; have u3 := Box.up hB 3 _ rfl; have u4 := Box.up hB 4 _ rfl; have u5 := Box.up hB 5 _ rfl; have u6 := Box.up hB 6 _ rfl; have u7 := Box.up hB 7 _ rfl; have u8 := Box.up hB 8 _ rfl) | (go_at_call 42; refine (check_any _ _ _ _ _ _ HQ.out _).mono ?_; rintro e w' ⟨rfl, b1⟩; have hb := hb.trans b1; have hB := hB.bel b1; clear b1; have c0 := hB.cell 0 _ rfl; have c1 := hB.cell 1 _ rfl; have c2 := hB.cell 2 _ rfl; have c3 := hB.cell 3 _ rfl; have c4 := hB.cell 4 _ rfl; have c5 := hB.cell 5 _ rfl; have c6 := hB.cell 6 _ rfl; have c7 := hB.cell 7 _ rfl; have c8 := hB.cell 8 _ rfl; have u0 := Box.up hB 0 _ rfl; have u1 := Box.up hB 1 _ rfl; have u2 := Box.up hB 2 _ rfl; have u3 := Box.up hB 3 _ rfl; have u4 := Box.up hB 4 _ rfl; have u5 := Box.up hB 5 _ rfl; have u6 := Box.up hB 6 _ rfl; have u7 := Box.up hB 7 _ rfl; have u8 := Box.up hB 8 _ rfl)); refine region_up (by kernel_rfl) (by kernel_rfl) ?_; (repeat (go_big_quiet_step ((go_at_call 72; exact up_call _ (enough_to _ _ _ HN.out hl _))))); refine wpQuiet_nil ?_; intro _ hw'; obtain ⟨uu, rfl⟩ := hw'; have b1 := uu.b; generalize uu.v = wu at *; clear uu; have hb := hb.trans b1; have hB := hB.bel b1; clear b1; have c0 := hB.cell 0 _ rfl; have c1 := hB.cell 1 _ rfl; have c2 := hB.cell 2 _ rfl; have c3 := hB.cell 3 _ rfl; have c4 := hB.cell 4 _ rfl; have c5 := hB.cell 5 _ rfl; have c6 := hB.cell 6 _ rfl; have c7 := hB.cell 7 _ rfl; have c8 := hB.cell 8 _ rfl; have u0 := Box.up hB 0 _ rfl; have u1 := Box.up hB 1 _ rfl; have u2 := Box.up hB 2 _ rfl; have u3 := Box.up hB 3 _ rfl; have u4 := Box.up hB 4 _ rfl; have u5 := Box.up hB 5 _ rfl; have u6 := Box.up hB 6 _ rfl; have u7 := Box.up hB 7 _ rfl; have u8 := Box.up hB 8 _ rfl)
        go_wp2_with (first | (go_at_call 54; refine (isF_to _ _ HI.out _).mono ?_; rintro e w' ⟨rfl, rfl⟩) | (go_at_call 101; refine (emptyF_to _ _ _ _ _ _ HE.out _).mono ?_; rintro e w' ⟨rfl, b1⟩; have hb := hb.trans b1; have hB := hB.bel b1; clear b1; have c0 := hB.cell 0 _ rfl; have c1 := hB.cell 1 _ rfl; have c2 := hB.cell 2 _ rfl; have c3 := hB.cell 3 _ rfl; have c4 := hB.cell 4 _ rfl; have c5 := hB.cell 5 _ rfl; have c6 := hB.cell 6 _ rfl; have c7 := hB.cell 7 _ rfl; have c8 := hB.cell 8 _ rfl; have u0 := Box.up hB 0 _ rfl; have u1 := Box.up hB 1 _ rfl; have u2 := Box.up hB 2 _ rfl; have u3 := Box.up hB 3 _ rfl; have u4 := Box.up hB 4 _ rfl; have u5 := Box.up hB 5 _ rfl; have u6 := Box.up hB 6 _ rfl; have u7 := Box.up hB 7 _ rfl; have u8 := Box.up hB 8 _ rfl) | (go_at_call 42; refine (check_any _ _ _ _ _ _ HQ.out _).mono ?_; rintro e w' ⟨rfl, b1⟩; have hb := hb.trans b1; have hB := hB.bel b1; clear b1; have c0 := hB.cell 0 _ rfl; have c1 := hB.cell 1 _ rfl; have c2 := hB.cell 2 _ rfl; have c3 := hB.cell 3 _ rfl; have c4 := hB.cell 4 _ rfl; have c5 := hB.cell 5 _ rfl; have c6 := hB.cell 6 _ rfl; have c7 := hB.cell 7 _ rfl; have c8 := hB.cell 8 _ rfl; have u0 := Box.up hB 0 _ rfl; have u1 := Box.up hB 1 _ rfl; have u2 := Box.up hB 2 _ rfl; have u3 := Box.up hB 3 _ rfl; have u4 := Box.up hB 4 _ rfl; have u5 := Box.up hB 5 _ rfl; have u6 := Box.up hB 6 _ rfl; have u7 := Box.up hB 7 _ rfl; have u8 := Box.up hB 8 _ rfl))
        go_ret
        exact ⟨rfl, hb⟩
      · have g3 : decide (wy < 0) = false := by simp; omega
        have g4 : decide (4 < wy) = true := by simp; omega
        clear h2
        clear hk
        go_enter Tryz.func70, Tryz.ntmps70
        repeat (go_wp2_with (first | (go_at_call 54; refine (isF_to _ _ HI.out _).mono ?_; rintro e w' ⟨rfl, rfl⟩) | (go_at_call 101; refine (emptyF_to _ _ _ _ _ _ HE.out _).mono ?_; rintro e w' ⟨rfl, b1⟩; have hb := hb.trans b1; have hB := hB.bel b1; clear b1; have c0 := hB.cell 0 _ rfl; have c1 := hB.cell 1 _ rfl; have c2 := hB.cell 2 _ rfl; have c3 := hB.cell 3 _ rfl; have c4 := hB.cell 4 _ rfl; have c5 := hB.cell 5 _ rfl; have c6 := hB.cell 6 _ rfl; have c7 := hB.cell 7 _ rfl; have c8 := hB.cell 8 _ rfl; have u0 := Box.up hB 0 _ rfl; have u1 := Box.up hB 1 _ rfl; have u2 := Box.up hB 2 _ rfl; have u3 := Box.up hB 3 _ rfl; have u4 := Box.up hB 4 _ rfl; have u5 := Box.up hB 5 _ rfl; have u6 := Box.up hB 6 _ rfl; have u7 := Box.up hB 7 _ rfl; have u8 := Box.up hB 8 _ rfl) | (go_at_call 42; refine (check_any _ _ _ _ _ _ HQ.out _).mono ?_; rintro e w' ⟨rfl, b1⟩; have hb := hb.trans b1; have hB := hB.bel b1; clear b1; have c0 := hB.cell 0 _ rfl; have c1 := hB.cell 1 _ rfl; have c2 := hB.cell 2 _ rfl; have c3 := hB.cell 3 _ rfl; have c4 := hB.cell 4 _ rfl; have c5 := hB.cell 5 _ rfl; have c6 := hB.cell 6 _ rfl; have c7 := hB.cell 7 _ rfl; have c8 := hB.cell 8 _ rfl; have u0 := Box.up hB 0 _ rfl; have u1 := Box.up hB 1 _ rfl; have u2 := Box.up hB 2 _ rfl; have u3 := Box.up hB 3 _ rfl; have u4 := Box.up hB 4 _ rfl; have u5 := Box.up hB 5 _ rfl; have u6 := Box.up hB 6 _ rfl; have u7 := Box.up hB 7 _ rfl; have u8 := Box.up hB 8 _ rfl)); refine region_up (by kernel_rfl) (by kernel_rfl) ?_; (repeat (go_big_quiet_step ((go_at_call 72; exact up_call _ (enough_to _ _ _ HN.out hl _))))); refine wpQuiet_nil ?_; intro _ hw'; obtain ⟨uu, rfl⟩ := hw'; have b1 := uu.b; generalize uu.v = wu at *; clear uu; have hb := hb.trans b1; have hB := hB.bel b1; clear b1; have c0 := hB.cell 0 _ rfl; have c1 := hB.cell 1 _ rfl; have c2 := hB.cell 2 _ rfl; have c3 := hB.cell 3 _ rfl; have c4 := hB.cell 4 _ rfl; have c5 := hB.cell 5 _ rfl; have c6 := hB.cell 6 _ rfl; have c7 := hB.cell 7 _ rfl; have c8 := hB.cell 8 _ rfl; have u0 := Box.up hB 0 _ rfl; have u1 := Box.up hB 1 _ rfl; have u2 := Box.up hB 2 _ rfl; have u3 := Box.up hB 3 _ rfl; have u4 := Box.up hB 4 _ rfl; have u5 := Box.up hB 5 _ rfl; have u6 := Box.up hB 6 _ rfl; have u7 := Box.up hB 7 _ rfl; have u8 := Box.up hB 8 _ rfl)
        go_wp2_with (first | (go_at_call 54; refine (isF_to _ _ HI.out _).mono ?_; rintro e w' ⟨rfl, rfl⟩) | (go_at_call 101; refine (emptyF_to _ _ _ _ _ _ HE.out _).mono ?_; rintro e w' ⟨rfl, b1⟩; have hb := hb.trans b1; have hB := hB.bel b1; clear b1; have c0 := hB.cell 0 _ rfl; have c1 := hB.cell 1 _ rfl; have c2 := hB.cell 2 _ rfl; have c3 := hB.cell 3 _ rfl; have c4 := hB.cell 4 _ rfl; have c5 := hB.cell 5 _ rfl; have c6 := hB.cell 6 _ rfl; have c7 := hB.cell 7 _ rfl; have c8 := hB.cell 8 _ rfl; have u0 := Box.up hB 0 _ rfl; have u1 := Box.up hB 1 _ rfl; have u2 := Box.up hB 2 _ rfl; have u3 := Box.up hB 3 _ rfl; have u4 := Box.up hB 4 _ rfl; have u5 := Box.up hB 5 _ rfl; have u6 := Box.up hB 6 _ rfl; have u7 := Box.up hB 7 _ rfl; have u8 := Box.up hB 8 _ rfl) | (go_at_call 42; refine (check_any _ _ _ _ _ _ HQ.out _).mono ?_; rintro e w' ⟨rfl, b1⟩; have hb := hb.trans b1; have hB := hB.bel b1; clear b1; have c0 := hB.cell 0 _ rfl; have c1 := hB.cell 1 _ rfl; have c2 := hB.cell 2 _ rfl; have c3 := hB.cell 3 _ rfl; have c4 := hB.cell 4 _ rfl; have c5 := hB.cell 5 _ rfl; have c6 := hB.cell 6 _ rfl; have c7 := hB.cell 7 _ rfl; have c8 := hB.cell 8 _ rfl; have u0 := Box.up hB 0 _ rfl; have u1 := Box.up hB 1 _ rfl; have u2 := Box.up hB 2 _ rfl; have u3 := Box.up hB 3 _ rfl; have u4 := Box.up hB 4 _ rfl; have u5 := Box.up hB 5 _ rfl; have u6 := Box.up hB 6 _ rfl; have u7 := Box.up hB 7 _ rfl; have u8 := Box.up hB 8 _ rfl))
        go_ret
        exact ⟨rfl, hb⟩
    · have g1 : (en != 0) = true := by simp; omega
      have HI := Lib.hid ((M.isEnc_iff en).2 h1)
      rcases h2 with h2 | h2
      · have g3 : decide (wy < 0) = true := by simp; omega
        clear h1 h2
        clear hk
        go_enter Tryz.func70, Tryz.ntmps70
        repeat (go_wp2_with (first | (go_at_call 54; refine (isF_to _ _ HI.out _).mono ?_; rintro e w' ⟨rfl, rfl⟩) | (go_at_call 101; refine (emptyF_to _ _ _ _ _ _ HE.out _).mono ?_; rintro e w' ⟨rfl, b1⟩; have hb := hb.trans b1; have hB := hB.bel b1; clear b1; have c0 := hB.cell 0 _ rfl; have c1 := hB.cell 1 _ rfl; have c2 := hB.cell 2 _ rfl; have c3 := hB.cell 3 _ rfl; have c4 := hB.cell 4 _ rfl; have c5 := hB.cell 5 _ rfl; have c6 := hB.cell 6 _ rfl; have c7 := hB.cell 7 _ rfl; have c8 := hB.cell 8 _ rfl; have u0 := Box.up hB 0 _ rfl; have u1 := Box.up hB 1 _ rfl; have u2 := Box.up hB 2 _ rfl; have u3 := Box.up hB 3 _ rfl; have u4 := Box.up hB 4 _ rfl; have u5 := Box.up hB 5 _ rfl; have u6 := Box.up hB 6 _ rfl; have u7 := Box.up hB 7 _ rfl; have u8 := Box.up hB 8 _ rfl) | (go_at_call 42; refine (check_any _ _ _ _ _ _ HQ.out _).mono ?_; rintro e w' ⟨rfl, b1⟩; have hb := hb.trans b1; have hB := hB.bel b1; clear b1; have c0 := hB.cell 0 _ rfl; have c1 := hB.cell 1 _ rfl; have c2 := hB.cell 2 _ rfl; have c3 := hB.cell 3 _ rfl; have c4 := hB.cell 4 _ rfl; have c5 := hB.cell 5 _ rfl; have c6 := hB.cell 6 _ rfl; have c7 := hB.cell 7 _ rfl; have c8 := hB.cell 8 _ rfl; have u0 := Box.up hB 0 _ rfl; have u1 := Box.up hB 1 _ rfl; have u2 := Box.up hB 2 _ rfl; have u3 := Box.up hB 3 _ rfl; have u4 := Box.up hB 4 _ rfl; have u5 := Box.up hB 5 _ rfl; have u6 := Box.up hB 6 _ rfl; have u7 := Box.up hB 7 _ rfl; have u8 := Box.up hB 8 _ rfl)); refine region_up (by kernel_rfl) (by kernel_rfl) ?_; (repeat (go_big_quiet_step ((go_at_call 72; exact up_call _ (enough_to _ _ _ HN.out hl _))))); refine wpQuiet_nil ?_; intro _ hw'; obtain ⟨uu, rfl⟩ := hw'; have b1 := uu.b; generalize uu.v = wu at *; clear uu; have hb := hb.trans b1; have hB := hB.bel b1; clear b1; have c0 := hB.cell 0 _ rfl; have c1 := hB.cell 1 _ rfl; have c2 := hB.cell 2 _ rfl; have c3 := hB.cell 3 _ rfl; have c4 := hB.cell 4 _ rfl; have c5 := hB.cell 5 _ rfl; have c6 := hB.cell 6 _ rfl; have c7 := hB.cell 7 _ rfl; have c8 := hB.cell 8 _ rfl; have u0 := Box.up hB 0 _ rfl; have u1 := Box.up hB 1 _ rfl; have u2 := Box.up hB 2 _ rfl; have u3 := Box.up hB 3 _ rfl; have u4 := Box.up hB 4 _ rfl; have u5 := Box.up hB 5 _ rfl; have u6 := Box.up hB 6 _ rfl; have u7 := Box.up hB 7 _ rfl; have u8 := Box.up hB 8 _ rfl)
        go_wp2_with (first | (go_at_call 54; refine (isF_to _ _ HI.out _).mono ?_; rintro e w' ⟨rfl, rfl⟩) | (go_at_call 101; refine (emptyF_to _ _ _ _ _ _ HE.out _).mono ?_; rintro e w' ⟨rfl, b1⟩; have hb := hb.trans b1; have hB := hB.bel b1; clear b1; have c0 := hB.cell 0 _ rfl; have c1 := hB.cell 1 _ rfl; have c2 := hB.cell 2 _ rfl; have c3 := hB.cell 3 _ rfl; have c4 := hB.cell 4 _ rfl; have c5 := hB.cell 5 _ rfl; have c6 := hB.cell 6 _ rfl; have c7 := hB.cell 7 _ rfl; have c8 := hB.cell 8 _ rfl; have u0 := Box.up hB 0 _ rfl; have u1 := Box.up hB 1 _ rfl; have u2 := Box.up hB 2 _ rfl; have u3 := Box.up hB 3 _ rfl; have u4 := Box.up hB 4 _ rfl; have u5 := Box.up hB 5 _ rfl; have u6 := Box.up hB 6 _ rfl; have u7 := Box.up hB 7 _ rfl; have u8 := Box.up hB 8 _ rfl) | (go_at_call 42; refine (check_any _ _ _ _ _ _ HQ.out _).mono ?_; rintro e w' ⟨rfl, b1⟩; have hb := hb.trans b1; have hB := hB.bel b1; clear b1; have c0 := hB.cell 0 _ rfl; have c1 := hB.cell 1 _ rfl; have c2 := hB.cell 2 _ rfl; have c3 := hB.cell 3 _ rfl; have c4 := hB.cell 4 _ rfl; have c5 := hB.cell 5 _ rfl; have c6 := hB.cell 6 _ rfl; have c7 := hB.cell 7 _ rfl; have c8 := hB.cell 8 _ rfl; have u0 := Box.up hB 0 _ rfl; have u1 := Box.up hB 1 _ rfl; have u2 := Box.up hB 2 _ rfl; have u3 := Box.up hB 3 _ rfl; have u4 := Box.up hB 4 _ rfl; have u5 := Box.up hB 5 _ rfl; have u6 := Box.up hB 6 _ rfl; have u7 := Box.up hB 7 _ rfl; have u8 := Box.up hB 8 _ rfl))
        go_ret
        exact ⟨rfl, hb⟩
      · have g3 : decide (wy < 0) = false := by simp; omega
        have g4 : decide (4 < wy) = true := by simp; omega
        clear h1 h2
        clear hk
        go_enter Tryz.func70, Tryz.ntmps70
        repeat (go_wp2_with (first | (go_at_call 54; refine (isF_to _ _ HI.out _).mono ?_; rintro e w' ⟨rfl, rfl⟩) | (go_at_call 101; refine (emptyF_to _ _ _ _ _ _ HE.out _).mono ?_; rintro e w' ⟨rfl, b1⟩; have hb := hb.trans b1; have hB := hB.bel b1; clear b1; have c0 := hB.cell 0 _ rfl; have c1 := hB.cell 1 _ rfl; have c2 := hB.cell 2 _ rfl; have c3 := hB.cell 3 _ rfl; have c4 := hB.cell 4 _ rfl; have c5 := hB.cell 5 _ rfl; have c6 := hB.cell 6 _ rfl; have c7 := hB.cell 7 _ rfl; have c8 := hB.cell 8 _ rfl; have u0 := Box.up hB 0 _ rfl; have u1 := Box.up hB 1 _ rfl; have u2 := Box.up hB 2 _ rfl; have u3 := Box.up hB 3 _ rfl; have u4 := Box.up hB 4 _ rfl; have u5 := Box.up hB 5 _ rfl; have u6 := Box.up hB 6 _ rfl; have u7 := Box.up hB 7 _ rfl; have u8 := Box.up hB 8 _ rfl) | (go_at_call 42; refine (check_any _ _ _ _ _ _ HQ.out _).mono ?_; rintro e w' ⟨rfl, b1⟩; have hb := hb.trans b1; have hB := hB.bel b1; clear b1; have c0 := hB.cell 0 _ rfl; have c1 := hB.cell 1 _ rfl; have c2 := hB.cell 2 _ rfl; have c3 := hB.cell 3 _ rfl; have c4 := hB.cell 4 _ rfl; have c5 := hB.cell 5 _ rfl; have c6 := hB.cell 6 _ rfl; have c7 := hB.cell 7 _ rfl; have c8 := hB.cell 8 _ rfl; have u0 := Box.up hB 0 _ rfl; have u1 := Box.up hB 1 _ rfl; have u2 := Box.up hB 2 _ rfl; have u3 := Box.up hB 3 _ rfl; have u4 := Box.up hB 4 _ rfl; have u5 := Box.up hB 5 _ rfl; have u6 := Box.up hB 6 _ rfl; have u7 := Box.up hB 7 _ rfl; have u8 := Box.up hB 8 _ rfl)); refine region_up (by kernel_rfl) (by kernel_rfl) ?_; (repeat (go_big_quiet_step ((go_at_call 72; exact up_call _ (enough_to _ _ _ HN.out hl _))))); refine wpQuiet_nil ?_; intro _ hw'; obtain ⟨uu, rfl⟩ := hw'; have b1 := uu.b; generalize uu.v = wu at *; clear uu; have hb := hb.trans b1; have hB := hB.bel b1; clear b1; have c0 := hB.cell 0 _ rfl; have c1 := hB.cell 1 _ rfl; have c2 := hB.cell 2 _ rfl; have c3 := hB.cell 3 _ rfl; have c4 := hB.cell 4 _ rfl; have c5 := hB.cell 5 _ rfl; have c6 := hB.cell 6 _ rfl; have c7 := hB.cell 7 _ rfl; have c8 := hB.cell 8 _ rfl; have u0 := Box.up hB 0 _ rfl; have u1 := Box.up hB 1 _ rfl; have u2 := Box.up hB 2 _ rfl; have u3 := Box.up hB 3 _ rfl; have u4 := Box.up hB 4 _ rfl; have u5 := Box.up hB 5 _ rfl; have u6 := Box.up hB 6 _ rfl; have u7 := Box.up hB 7 _ rfl; have u8 := Box.up hB 8 _ rfl)
        go_wp2_with (first | (go_at_call 54; refine (isF_to _ _ HI.out _).mono ?_; rintro e w' ⟨rfl, rfl⟩) | (go_at_call 101; refine (emptyF_to _ _ _ _ _ _ HE.out _).mono ?_; rintro e w' ⟨rfl, b1⟩; have hb := hb.trans b1; have hB := hB.bel b1; clear b1; have c0 := hB.cell 0 _ rfl; have c1 := hB.cell 1 _ rfl; have c2 := hB.cell 2 _ rfl; have c3 := hB.cell 3 _ rfl; have c4 := hB.cell 4 _ rfl; have c5 := hB.cell 5 _ rfl; have c6 := hB.cell 6 _ rfl; have c7 := hB.cell 7 _ rfl; have c8 := hB.cell 8 _ rfl; have u0 := Box.up hB 0 _ rfl; have u1 := Box.up hB 1 _ rfl; have u2 := Box.up hB 2 _ rfl; have u3 := Box.up hB 3 _ rfl; have u4 := Box.up hB 4 _ rfl; have u5 := Box.up hB 5 _ rfl; have u6 := Box.up hB 6 _ rfl; have u7 := Box.up hB 7 _ rfl; have u8 := Box.up hB 8 _ rfl) | (go_at_call 42; refine (check_any _ _ _ _ _ _ HQ.out _).mono ?_; rintro e w' ⟨rfl, b1⟩; have hb := hb.trans b1; have hB := hB.bel b1; clear b1; have c0 := hB.cell 0 _ rfl; have c1 := hB.cell 1 _ rfl; have c2 := hB.cell 2 _ rfl; have c3 := hB.cell 3 _ rfl; have c4 := hB.cell 4 _ rfl; have c5 := hB.cell 5 _ rfl; have c6 := hB.cell 6 _ rfl; have c7 := hB.cell 7 _ rfl; have c8 := hB.cell 8 _ rfl; have u0 := Box.up hB 0 _ rfl; have u1 := Box.up hB 1 _ rfl; have u2 := Box.up hB 2 _ rfl; have u3 := Box.up hB 3 _ rfl; have u4 := Box.up hB 4 _ rfl; have u5 := Box.up hB 5 _ rfl; have u6 := Box.up hB 6 _ rfl; have u7 := Box.up hB 7 _ rfl; have u8 := Box.up hB 8 _ rfl))
        go_ret
        exact ⟨rfl, hb⟩
  · have g3 : decide (wy < 0) = false := by simp; omega
    have g4 : decide (4 < wy) = false := by simp; omega
    have g5 : (wy == 0) = false := by simp; omega
    clear h2
    clear hk
    go_enter Tryz.func70, Tryz.ntmps70
    repeat (go_wp2_with (first | (go_at_call 54; refine (isF_to _ _ HI.out _).mono ?_; rintro e w' ⟨rfl, rfl⟩) | (go_at_call 101; refine (emptyF_to _ _ _ _ _ _ HE.out _).mono ?_; rintro e w' ⟨rfl, b1⟩; have hb := hb.trans b1; have hB := hB.bel b1; clear b1; have c0 := hB.cell 0 _ rfl; have c1 := hB.cell 1 _ rfl; have c2 := hB.cell 2 _ rfl; have c3 := hB.cell 3 _ rfl; have c4 := hB.cell 4 _ rfl; have c5 := hB.cell 5 _ rfl; have c6 := hB.cell 6 _ rfl; have c7 := hB.cell 7 _ rfl; have c8 := hB.cell 8 _ rfl; have u0 := Box.up hB 0 _ rfl; have u1 := Box.up hB 1 _ rfl; have u2 := Box.up hB 2 _ rfl; have u3 := Box.up hB 3 _ rfl; have u4 := Box.up hB 4 _ rfl; have u5 := Box.up hB 5 _ rfl; have u6 := Box.up hB 6 _ rfl; have u7 := Box.up hB 7 _ rfl; have u8 := Box.up hB 8 _ rfl) | (go_at_call 42; refine (check_any _ _ _ _ _ _ HQ.out _).mono ?_; rintro e w' ⟨rfl, b1⟩; have hb := hb.trans b1; have hB := hB.bel b1; clear b1; have c0 := hB.cell 0 _ rfl; have c1 := hB.cell 1 _ rfl; have c2 := hB.cell 2 _ rfl; have c3 := hB.cell 3 _ rfl; have c4 := hB.cell 4 _ rfl; have c5 := hB.cell 5 _ rfl; have c6 := hB.cell 6 _ rfl; have c7 := hB.cell 7 _ rfl; have c8 := hB.cell 8 _ rfl; have u0 := Box.up hB 0 _ rfl; have u1 := Box.up hB 1 _ rfl; have u2 := Box.up hB 2 _ rfl; have u3 := Box.up hB 3 _ rfl; have u4 := Box.up hB 4 _ rfl; have u5 := Box.up hB 5 _ rfl; have u6 := Box.up hB 6 _ rfl; have u7 := Box.up hB 7 _ rfl; have u8 := Box.up hB 8 _ rfl)); refine region_up (by kernel_rfl) (by kernel_rfl) ?_; (repeat (go_big_quiet_step ((go_at_call 72; exact up_call _ (enough_to _ _ _ HN.out hl _))))); refine wpQuiet_nil ?_; intro _ hw'; obtain ⟨uu, rfl⟩ := hw'; have b1 := uu.b; generalize uu.v = wu at *; clear uu; have hb := hb.trans b1; have hB := hB.bel b1; clear b1; have c0 := hB.cell 0 _ rfl; have c1 := hB.cell 1 _ rfl; have c2 := hB.cell 2 _ rfl; have c3 := hB.cell 3 _ rfl; have c4 := hB.cell 4 _ rfl; have c5 := hB.cell 5 _ rfl; have c6 := hB.cell 6 _ rfl; have c7 := hB.cell 7 _ rfl; have c8 := hB.cell 8 _ rfl; have u0 := Box.up hB 0 _ rfl; have u1 := Box.up hB 1 _ rfl; have u2 := Box.up hB 2 _ rfl; have u3 := Box.up hB 3 _ rfl; have u4 := Box.up hB 4 _ rfl; have u5 := Box.up hB 5 _ rfl; have u6 := Box.up hB 6 _ rfl; have u7 := Box.up hB 7 _ rfl; have u8 := Box.up hB 8 _ rfl)
    go_wp2_with (first | (go_at_call 54; refine (isF_to _ _ HI.out _).mono ?_; rintro e w' ⟨rfl, rfl⟩) | (go_at_call 101; refine (emptyF_to _ _ _ _ _ _ HE.out _).mono ?_; rintro e w' ⟨rfl, b1⟩; have hb := hb.trans b1; have hB := hB.bel b1; clear b1; have c0 := hB.cell 0 _ rfl; have c1 := hB.cell 1 _ rfl; have c2 := hB.cell 2 _ rfl; have c3 := hB.cell 3 _ rfl; have c4 := hB.cell 4 _ rfl; have c5 := hB.cell 5 _ rfl; have c6 := hB.cell 6 _ rfl; have c7 := hB.cell 7 _ rfl; have c8 := hB.cell 8 _ rfl; have u0 := Box.up hB 0 _ rfl; have u1 := Box.up hB 1 _ rfl; have u2 := Box.up hB 2 _ rfl; have u3 := Box.up hB 3 _ rfl; have u4 := Box.up hB 4 _ rfl; have u5 := Box.up hB 5 _ rfl; have u6 := Box.up hB 6 _ rfl; have u7 := Box.up hB 7 _ rfl; have u8 := Box.up hB 8 _ rfl) | (go_at_call 42; refine (check_any _ _ _ _ _ _ HQ.out _).mono ?_; rintro e w' ⟨rfl, b1⟩; have hb := hb.trans b1; have hB := hB.bel b1; clear b1; have c0 := hB.cell 0 _ rfl; have c1 := hB.cell 1 _ rfl; have c2 := hB.cell 2 _ rfl; have c3 := hB.cell 3 _ rfl; have c4 := hB.cell 4 _ rfl; have c5 := hB.cell 5 _ rfl; have c6 := hB.cell 6 _ rfl; have c7 := hB.cell 7 _ rfl; have c8 := hB.cell 8 _ rfl; have u0 := Box.up hB 0 _ rfl; have u1 := Box.up hB 1 _ rfl; have u2 := Box.up hB 2 _ rfl; have u3 := Box.up hB 3 _ rfl; have u4 := Box.up hB 4 _ rfl; have u5 := Box.up hB 5 _ rfl; have u6 := Box.up hB 6 _ rfl; have u7 := Box.up hB 7 _ rfl; have u8 := Box.up hB 8 _ rfl))
    go_ret
    exact ⟨rfl, hb⟩
  · have g1 : (en != 0) = true := by simp; omega
    have g2 : (en == 0) = false := by simp; omega
    have HI := Lib.hid ((M.isEnc_iff en).2 h1)
    clear h1
    clear hk
    go_enter Tryz.func70, Tryz.ntmps70
    repeat (go_wp2_with (first | (go_at_call 54; refine (isF_to _ _ HI.out _).mono ?_; rintro e w' ⟨rfl, rfl⟩) | (go_at_call 101; refine (emptyF_to _ _ _ _ _ _ HE.out _).mono ?_; rintro e w' ⟨rfl, b1⟩; have hb := hb.trans b1; have hB := hB.bel b1; clear b1; have c0 := hB.cell 0 _ rfl; have c1 := hB.cell 1 _ rfl; have c2 := hB.cell 2 _ rfl; have c3 := hB.cell 3 _ rfl; have c4 := hB.cell 4 _ rfl; have c5 := hB.cell 5 _ rfl; have c6 := hB.cell 6 _ rfl; have c7 := hB.cell 7 _ rfl; have c8 := hB.cell 8 _ rfl; have u0 := Box.up hB 0 _ rfl; have u1 := Box.up hB 1 _ rfl; have u2 := Box.up hB 2 _ rfl; have u3 := Box.up hB 3 _ rfl; have u4 := Box.up hB 4 _ rfl; have u5 := Box.up hB 5 _ rfl; have u6 := Box.up hB 6 _ rfl; have u7 := Box.up hB 7 _ rfl; have u8 := Box.up hB 8 _ rfl) | (go_at_call 42; refine (check_any _ _ _ _ _ _ HQ.out _).mono ?_; rintro e w' ⟨rfl, b1⟩; have hb := hb.trans b1; have hB := hB.bel b1; clear b1; have c0 := hB.cell 0 _ rfl; have c1 := hB.cell 1 _ rfl; have c2 := hB.cell 2 _ rfl; have c3 := hB.cell 3 _ rfl; have c4 := hB.cell 4 _ rfl; have c5 := hB.cell 5 _ rfl; have c6 := hB.cell 6 _ rfl; have c7 := hB.cell 7 _ rfl; have c8 := hB.cell 8 _ rfl; have u0 := Box.up hB 0 _ rfl; have u1 := Box.up hB 1 _ rfl; have u2 := Box.up hB 2 _ rfl; have u3 := Box.up hB 3 _ rfl; have u4 := Box.up hB 4 _ rfl; have u5 := Box.up hB 5 _ rfl; have u6 := Box.up hB 6 _ rfl; have u7 := Box.up hB 7 _ rfl; have u8 := Box.up hB 8 _ rfl)); refine region_up (by kernel_rfl) (by kernel_rfl) ?_; (repeat (go_big_quiet_step ((go_at_call 72; exact up_call _ (enough_to _ _ _ HN.out hl _))))); refine wpQuiet_nil ?_; intro _ hw'; obtain ⟨uu, rfl⟩ := hw'; have b1 := uu.b; generalize uu.v = wu at *; clear uu; have hb := hb.trans b1; have hB := hB.bel b1; clear b1; have c0 := hB.cell 0 _ rfl; have c1 := hB.cell 1 _ rfl; have c2 := hB.cell 2 _ rfl; have c3 := hB.cell 3 _ rfl; have c4 := hB.cell 4 _ rfl; have c5 := hB.cell 5 _ rfl; have c6 := hB.cell 6 _ rfl; have c7 := hB.cell 7 _ rfl; have c8 := hB.cell 8 _ rfl; have u0 := Box.up hB 0 _ rfl; have u1 := Box.up hB 1 _ rfl; have u2 := Box.up hB 2 _ rfl; have u3 := Box.up hB 3 _ rfl; have u4 := Box.up hB 4 _ rfl; have u5 := Box.up hB 5 _ rfl; have u6 := Box.up hB 6 _ rfl; have u7 := Box.up hB 7 _ rfl; have u8 := Box.up hB 8 _ rfl)
    go_wp2_with (first | (go_at_call 54; refine (isF_to _ _ HI.out _).mono ?_; rintro e w' ⟨rfl, rfl⟩) | (go_at_call 101; refine (emptyF_to _ _ _ _ _ _ HE.out _).mono ?_; rintro e w' ⟨rfl, b1⟩; have hb := hb.trans b1; have hB := hB.bel b1; clear b1; have c0 := hB.cell 0 _ rfl; have c1 := hB.cell 1 _ rfl; have c2 := hB.cell 2 _ rfl; have c3 := hB.cell 3 _ rfl; have c4 := hB.cell 4 _ rfl; have c5 := hB.cell 5 _ rfl; have c6 := hB.cell 6 _ rfl; have c7 := hB.cell 7 _ rfl; have c8 := hB.cell 8 _ rfl; have u0 := Box.up hB 0 _ rfl; have u1 := Box.up hB 1 _ rfl; have u2 := Box.up hB 2 _ rfl; have u3 := Box.up hB 3 _ rfl; have u4 := Box.up hB 4 _ rfl; have u5 := Box.up hB 5 _ rfl; have u6 := Box.up hB 6 _ rfl; have u7 := Box.up hB 7 _ rfl; have u8 := Box.up hB 8 _ rfl) | (go_at_call 42; refine (check_any _ _ _ _ _ _ HQ.out _).mono ?_; rintro e w' ⟨rfl, b1⟩; have hb := hb.trans b1; have hB := hB.bel b1; clear b1; have c0 := hB.cell 0 _ rfl; have c1 := hB.cell 1 _ rfl; have c2 := hB.cell 2 _ rfl; have c3 := hB.cell 3 _ rfl; have c4 := hB.cell 4 _ rfl; have c5 := hB.cell 5 _ rfl; have c6 := hB.cell 6 _ rfl; have c7 := hB.cell 7 _ rfl; have c8 := hB.cell 8 _ rfl; have u0 := Box.up hB 0 _ rfl; have u1 := Box.up hB 1 _ rfl; have u2 := Box.up hB 2 _ rfl; have u3 := Box.up hB 3 _ rfl; have u4 := Box.up hB 4 _ rfl; have u5 := Box.up hB 5 _ rfl; have u6 := Box.up hB 6 _ rfl; have u7 := Box.up hB 7 _ rfl; have u8 := Box.up hB 8 _ rfl))
    go_ret
    exact ⟨rfl, hb⟩
  · have HE := Lib.hid h3
    clear h3
    clear hk
    go_enter Tryz.func70, Tryz.ntmps70
    repeat (go_wp2_with (first | (go_at_call 54; refine (isF_to _ _ HI.out _).mono ?_; rintro e w' ⟨rfl, rfl⟩) | (go_at_call 101; refine (emptyF_to _ _ _ _ _ _ HE.out _).mono ?_; rintro e w' ⟨rfl, b1⟩; have hb := hb.trans b1; have hB := hB.bel b1; clear b1; have c0 := hB.cell 0 _ rfl; have c1 := hB.cell 1 _ rfl; have c2 := hB.cell 2 _ rfl; have c3 := hB.cell 3 _ rfl; have c4 := hB.cell 4 _ rfl; have c5 := hB.cell 5 _ rfl; have c6 := hB.cell 6 _ rfl; have c7 := hB.cell 7 _ rfl; have c8 := hB.cell 8 _ rfl; have u0 := Box.up hB 0 _ rfl; have u1 := Box.up hB 1 _ rfl; have u2 := Box.up hB 2 _ rfl; have u3 := Box.up hB 3 _ rfl; have u4 := Box.up hB 4 _ rfl; have u5 := Box.up hB 5 _ rfl; have u6 := Box.up hB 6 _ rfl; have u7 := Box.up hB 7 _ rfl; have u8 := Box.up hB 8 _ rfl) | (go_at_call 42; refine (check_any _ _ _ _ _ _ HQ.out _).mono ?_; rintro e w' ⟨rfl, b1⟩; have hb := hb.trans b1; have hB := hB.bel b1; clear b1; have c0 := hB.cell 0 _ rfl; have c1 := hB.cell 1 _ rfl; have c2 := hB.cell 2 _ rfl; have c3 := hB.cell 3 _ rfl; have c4 := hB.cell 4 _ rfl; have c5 := hB.cell 5 _ rfl; have c6 := hB.cell 6 _ rfl; have c7 := hB.cell 7 _ rfl; have c8 := hB.cell 8 _ rfl; have u0 := Box.up hB 0 _ rfl; have u1 := Box.up hB 1 _ rfl; have u2 := Box.up hB 2 _ rfl; have u3 := Box.up hB 3 _ rfl; have u4 := Box.up hB 4 _ rfl; have u5 := Box.up hB 5 _ rfl; have u6 := Box.up hB 6 _ rfl; have u7 := Box.up hB 7 _ rfl; have u8 := Box.up hB 8 _ rfl)); refine region_up (by kernel_rfl) (by kernel_rfl) ?_; (repeat (go_big_quiet_step ((go_at_call 72; exact up_call _ (enough_to _ _ _ HN.out hl _))))); refine wpQuiet_nil ?_; intro _ hw'; obtain ⟨uu, rfl⟩ := hw'; have b1 := uu.b; generalize uu.v = wu at *; clear uu; have hb := hb.trans b1; have hB := hB.bel b1; clear b1; have c0 := hB.cell 0 _ rfl; have c1 := hB.cell 1 _ rfl; have c2 := hB.cell 2 _ rfl; have c3 := hB.cell 3 _ rfl; have c4 := hB.cell 4 _ rfl; have c5 := hB.cell 5 _ rfl; have c6 := hB.cell 6 _ rfl; have c7 := hB.cell 7 _ rfl; have c8 := hB.cell 8 _ rfl; have u0 := Box.up hB 0 _ rfl; have u1 := Box.up hB 1 _ rfl; have u2 := Box.up hB 2 _ rfl; have u3 := Box.up hB 3 _ rfl; have u4 := Box.up hB 4 _ rfl; have u5 := Box.up hB 5 _ rfl; have u6 := Box.up hB 6 _ rfl; have u7 := Box.up hB 7 _ rfl; have u8 := Box.up hB 8 _ rfl)
    go_wp2_with (first | (go_at_call 54; refine (isF_to _ _ HI.out _).mono ?_; rintro e w' ⟨rfl, rfl⟩) | (go_at_call 101; refine (emptyF_to _ _ _ _ _ _ HE.out _).mono ?_; rintro e w' ⟨rfl, b1⟩; have hb := hb.trans b1; have hB := hB.bel b1; clear b1; have c0 := hB.cell 0 _ rfl; have c1 := hB.cell 1 _ rfl; have c2 := hB.cell 2 _ rfl; have c3 := hB.cell 3 _ rfl; have c4 := hB.cell 4 _ rfl; have c5 := hB.cell 5 _ rfl; have c6 := hB.cell 6 _ rfl; have c7 := hB.cell 7 _ rfl; have c8 := hB.cell 8 _ rfl; have u0 := Box.up hB 0 _ rfl; have u1 := Box.up hB 1 _ rfl; have u2 := Box.up hB 2 _ rfl; have u3 := Box.up hB 3 _ rfl; have u4 := Box.up hB 4 _ rfl; have u5 := Box.up hB 5 _ rfl; have u6 := Box.up hB 6 _ rfl; have u7 := Box.up hB 7 _ rfl; have u8 := Box.up hB 8 _ rfl) | (go_at_call 42; refine (check_any _ _ _ _ _ _ HQ.out _).mono ?_; rintro e w' ⟨rfl, b1⟩; have hb := hb.trans b1; have hB := hB.bel b1; clear b1; have c0 := hB.cell 0 _ rfl; have c1 := hB.cell 1 _ rfl; have c2 := hB.cell 2 _ rfl; have c3 := hB.cell 3 _ rfl; have c4 := hB.cell 4 _ rfl; have c5 := hB.cell 5 _ rfl; have c6 := hB.cell 6 _ rfl; have c7 := hB.cell 7 _ rfl; have c8 := hB.cell 8 _ rfl; have u0 := Box.up hB 0 _ rfl; have u1 := Box.up hB 1 _ rfl; have u2 := Box.up hB 2 _ rfl; have u3 := Box.up hB 3 _ rfl; have u4 := Box.up hB 4 _ rfl; have u5 := Box.up hB 5 _ rfl; have u6 := Box.up hB 6 _ rfl; have u7 := Box.up hB 7 _ rfl; have u8 := Box.up hB 8 _ rfl))
    go_ret
    exact ⟨rfl, hb⟩
  · have HE := Lib.hid h3
    have HN := Lib.hid h4
    clear h3 h4
    clear hk
    go_enter Tryz.func70, Tryz.ntmps70
    repeat (go_wp2_with (first | (go_at_call 54; refine (isF_to _ _ HI.out _).mono ?_; rintro e w' ⟨rfl, rfl⟩) | (go_at_call 101; refine (emptyF_to _ _ _ _ _ _ HE.out _).mono ?_; rintro e w' ⟨rfl, b1⟩; have hb := hb.trans b1; have hB := hB.bel b1; clear b1; have c0 := hB.cell 0 _ rfl; have c1 := hB.cell 1 _ rfl; have c2 := hB.cell 2 _ rfl; have c3 := hB.cell 3 _ rfl; have c4 := hB.cell 4 _ rfl; have c5 := hB.cell 5 _ rfl; have c6 := hB.cell 6 _ rfl; have c7 := hB.cell 7 _ rfl; have c8 := hB.cell 8 _ rfl; have u0 := Box.up hB 0 _ rfl; have u1 := Box.up hB 1 _ rfl; have u2 := Box.up hB 2 _ rfl; have u3 := Box.up hB 3 _ rfl; have u4 := Box.up hB 4 _ rfl; have u5 := Box.up hB 5 _ rfl; have u6 := Box.up hB 6 _ rfl; have u7 := Box.up hB 7 _ rfl; have u8 := Box.up hB 8 _ rfl) | (go_at_call 42; refine (check_any _ _ _ _ _ _ HQ.out _).mono ?_; rintro e w' ⟨rfl, b1⟩; have hb := hb.trans b1; have hB := hB.bel b1; clear b1; have c0 := hB.cell 0 _ rfl; have c1 := hB.cell 1 _ rfl; have c2 := hB.cell 2 _ rfl; have c3 := hB.cell 3 _ rfl; have c4 := hB.cell 4 _ rfl; have c5 := hB.cell 5 _ rfl; have c6 := hB.cell 6 _ rfl; have c7 := hB.cell 7 _ rfl; have c8 := hB.cell 8 _ rfl; have u0 := Box.up hB 0 _ rfl; have u1 := Box.up hB 1 _ rfl; have u2 := Box.up hB 2 _ rfl; have u3 := Box.up hB 3 _ rfl; have u4 := Box.up hB 4 _ rfl; have u5 := Box.up hB 5 _ rfl; have u6 := Box.up hB 6 _ rfl; have u7 := Box.up hB 7 _ rfl; have u8 := Box.up hB 8 _ rfl)); refine region_up (by kernel_rfl) (by kernel_rfl) ?_; (repeat (go_big_quiet_step ((go_at_call 72; exact up_call _ (enough_to _ _ _ HN.out hl _))))); refine wpQuiet_nil ?_; intro _ hw'; obtain ⟨uu, rfl⟩ := hw'; have b1 := uu.b; generalize uu.v = wu at *; clear uu; have hb := hb.trans b1; have hB := hB.bel b1; clear b1; have c0 := hB.cell 0 _ rfl; have c1 := hB.cell 1 _ rfl; have c2 := hB.cell 2 _ rfl; have c3 := hB.cell 3 _ rfl; have c4 := hB.cell 4 _ rfl; have c5 := hB.cell 5 _ rfl; have c6 := hB.cell 6 _ rfl; have c7 := hB.cell 7 _ rfl; have c8 := hB.cell 8 _ rfl; have u0 := Box.up hB 0 _ rfl; have u1 := Box.up hB 1 _ rfl; have u2 := Box.up hB 2 _ rfl; have u3 := Box.up hB 3 _ rfl; have u4 := Box.up hB 4 _ rfl; have u5 := Box.up hB 5 _ rfl; have u6 := Box.up hB 6 _ rfl; have u7 := Box.up hB 7 _ rfl; have u8 := Box.up hB 8 _ rfl)
    go_wp2_with (first | (go_at_call 54; refine (isF_to _ _ HI.out _).mono ?_; rintro e w' ⟨rfl, rfl⟩) | (go_at_call 101; refine (emptyF_to _ _ _ _ _ _ HE.out _).mono ?_; rintro e w' ⟨rfl, b1⟩; have hb := hb.trans b1; have hB := hB.bel b1; clear b1; have c0 := hB.cell 0 _ rfl; have c1 := hB.cell 1 _ rfl; have c2 := hB.cell 2 _ rfl; have c3 := hB.cell 3 _ rfl; have c4 := hB.cell 4 _ rfl; have c5 := hB.cell 5 _ rfl; have c6 := hB.cell 6 _ rfl; have c7 := hB.cell 7 _ rfl; have c8 := hB.cell 8 _ rfl; have u0 := Box.up hB 0 _ rfl; have u1 := Box.up hB 1 _ rfl; have u2 := Box.up hB 2 _ rfl; have u3 := Box.up hB 3 _ rfl; have u4 := Box.up hB 4 _ rfl; have u5 := Box.up hB 5 _ rfl; have u6 := Box.up hB 6 _ rfl; have u7 := Box.up hB 7 _ rfl; have u8 := Box.up hB 8 _ rfl) | (go_at_call 42; refine (check_any _ _ _ _ _ _ HQ.out _).mono ?_; rintro e w' ⟨rfl, b1⟩; have hb := hb.trans b1; have hB := hB.bel b1; clear b1; have c0 := hB.cell 0 _ rfl; have c1 := hB.cell 1 _ rfl; have c2 := hB.cell 2 _ rfl; have c3 := hB.cell 3 _ rfl; have c4 := hB.cell 4 _ rfl; have c5 := hB.cell 5 _ rfl; have c6 := hB.cell 6 _ rfl; have c7 := hB.cell 7 _ rfl; have c8 := hB.cell 8 _ rfl; have u0 := Box.up hB 0 _ rfl; have u1 := Box.up hB 1 _ rfl; have u2 := Box.up hB 2 _ rfl; have u3 := Box.up hB 3 _ rfl; have u4 := Box.up hB 4 _ rfl; have u5 := Box.up hB 5 _ rfl; have u6 := Box.up hB 6 _ rfl; have u7 := Box.up hB 7 _ rfl; have u8 := Box.up hB 8 _ rfl))
    go_ret
    exact ⟨rfl, hb⟩
  · have HE := Lib.hid h3
    have HN := Lib.hid h4
    clear h3 h4
    clear hk
    go_enter Tryz.func70, Tryz.ntmps70
    repeat (go_wp2_with (first | (go_at_call 54; refine (isF_to _ _ HI.out _).mono ?_; rintro e w' ⟨rfl, rfl⟩) | (go_at_call 101; refine (emptyF_to _ _ _ _ _ _ HE.out _).mono ?_; rintro e w' ⟨rfl, b1⟩; have hb := hb.trans b1; have hB := hB.bel b1; clear b1; have c0 := hB.cell 0 _ rfl; have c1 := hB.cell 1 _ rfl; have c2 := hB.cell 2 _ rfl; have c3 := hB.cell 3 _ rfl; have c4 := hB.cell 4 _ rfl; have c5 := hB.cell 5 _ rfl; have c6 := hB.cell 6 _ rfl; have c7 := hB.cell 7 _ rfl; have c8 := hB.cell 8 _ rfl; have u0 := Box.up hB 0 _ rfl; have u1 := Box.up hB 1 _ rfl; have u2 := Box.up hB 2 _ rfl; have u3 := Box.up hB 3 _ rfl; have u4 := Box.up hB 4 _ rfl; have u5 := Box.up hB 5 _ rfl; have u6 := Box.up hB 6 _ rfl; have u7 := Box.up hB 7 _ rfl; have u8 := Box.up hB 8 _ rfl) | (go_at_call 42; refine (check_any _ _ _ _ _ _ HQ.out _).mono ?_; rintro e w' ⟨rfl, b1⟩; have hb := hb.trans b1; have hB := hB.bel b1; clear b1; have c0 := hB.cell 0 _ rfl; have c1 := hB.cell 1 _ rfl; have c2 := hB.cell 2 _ rfl; have c3 := hB.cell 3 _ rfl; have c4 := hB.cell 4 _ rfl; have c5 := hB.cell 5 _ rfl; have c6 := hB.cell 6 _ rfl; have c7 := hB.cell 7 _ rfl; have c8 := hB.cell 8 _ rfl; have u0 := Box.up hB 0 _ rfl; have u1 := Box.up hB 1 _ rfl; have u2 := Box.up hB 2 _ rfl; have u3 := Box.up hB 3 _ rfl; have u4 := Box.up hB 4 _ rfl; have u5 := Box.up hB 5 _ rfl; have u6 := Box.up hB 6 _ rfl; have u7 := Box.up hB 7 _ rfl; have u8 := Box.up hB 8 _ rfl)); refine region_up (by kernel_rfl) (by kernel_rfl) ?_; (repeat (go_big_quiet_step ((go_at_call 72; exact up_call _ (enough_to _ _ _ HN.out hl _))))); refine wpQuiet_nil ?_; intro _ hw'; obtain ⟨uu, rfl⟩ := hw'; have b1 := uu.b; generalize uu.v = wu at *; clear uu; have hb := hb.trans b1; have hB := hB.bel b1; clear b1; have c0 := hB.cell 0 _ rfl; have c1 := hB.cell 1 _ rfl; have c2 := hB.cell 2 _ rfl; have c3 := hB.cell 3 _ rfl; have c4 := hB.cell 4 _ rfl; have c5 := hB.cell 5 _ rfl; have c6 := hB.cell 6 _ rfl; have c7 := hB.cell 7 _ rfl; have c8 := hB.cell 8 _ rfl; have u0 := Box.up hB 0 _ rfl; have u1 := Box.up hB 1 _ rfl; have u2 := Box.up hB 2 _ rfl; have u3 := Box.up hB 3 _ rfl; have u4 := Box.up hB 4 _ rfl; have u5 := Box.up hB 5 _ rfl; have u6 := Box.up hB 6 _ rfl; have u7 := Box.up hB 7 _ rfl; have u8 := Box.up hB 8 _ rfl)
    go_wp2_with (first | (go_at_call 54; refine (isF_to _ _ HI.out _).mono ?_; rintro e w' ⟨rfl, rfl⟩) | (go_at_call 101; refine (emptyF_to _ _ _ _ _ _ HE.out _).mono ?_; rintro e w' ⟨rfl, b1⟩; have hb := hb.trans b1; have hB := hB.bel b1; clear b1; have c0 := hB.cell 0 _ rfl; have c1 := hB.cell 1 _ rfl; have c2 := hB.cell 2 _ rfl; have c3 := hB.cell 3 _ rfl; have c4 := hB.cell 4 _ rfl; have c5 := hB.cell 5 _ rfl; have c6 := hB.cell 6 _ rfl; have c7 := hB.cell 7 _ rfl; have c8 := hB.cell 8 _ rfl; have u0 := Box.up hB 0 _ rfl; have u1 := Box.up hB 1 _ rfl; have u2 := Box.up hB 2 _ rfl; have u3 := Box.up hB 3 _ rfl; have u4 := Box.up hB 4 _ rfl; have u5 := Box.up hB 5 _ rfl; have u6 := Box.up hB 6 _ rfl; have u7 := Box.up hB 7 _ rfl; have u8 := Box.up hB 8 _ rfl) | (go_at_call 42; refine (check_any _ _ _ _ _ _ HQ.out _).mono ?_; rintro e w' ⟨rfl, b1⟩; have hb := hb.trans b1; have hB := hB.bel b1; clear b1; have c0 := hB.cell 0 _ rfl; have c1 := hB.cell 1 _ rfl; have c2 := hB.cell 2 _ rfl; have c3 := hB.cell 3 _ rfl; have c4 := hB.cell 4 _ rfl; have c5 := hB.cell 5 _ rfl; have c6 := hB.cell 6 _ rfl; have c7 := hB.cell 7 _ rfl; have c8 := hB.cell 8 _ rfl; have u0 := Box.up hB 0 _ rfl; have u1 := Box.up hB 1 _ rfl; have u2 := Box.up hB 2 _ rfl; have u3 := Box.up hB 3 _ rfl; have u4 := Box.up hB 4 _ rfl; have u5 := Box.up hB 5 _ rfl; have u6 := Box.up hB 6 _ rfl; have u7 := Box.up hB 7 _ rfl; have u8 := Box.up hB 8 _ rfl))
    go_ret
    exact ⟨rfl, hb⟩
  · have g1 : (en != 0) = true := by simp; omega
    have g2 : (en == 0) = false := by simp; omega
    have g3 : decide (wy < 0) = false := by simp; omega
    have g4 : decide (4 < wy) = false := by simp; omega
    have g5 : (wy == 0) = false := by simp; omega
    have g6 : (wy != 0) = true := by simp; omega
    have HI := Lib.hid ((M.isEnc_iff en).2 h1)
    have g7 : wt.toList.isEmpty = false := by rw [Lib.toList_data]; cases hq : wt.data.toList with | nil => exact absurd hq h3 | cons a l => rfl
    clear h1 h2 h3
    clear hk
    go_enter Tryz.func70, Tryz.ntmps70
    repeat (go_wp2_with (first | (go_at_call 54; refine (isF_to _ _ HI.out _).mono ?_; rintro e w' ⟨rfl, rfl⟩) | (go_at_call 101; refine (emptyF_to _ _ _ _ _ _ HE.out _).mono ?_; rintro e w' ⟨rfl, b1⟩; have hb := hb.trans b1; have hB := hB.bel b1; clear b1; have c0 := hB.cell 0 _ rfl; have c1 := hB.cell 1 _ rfl; have c2 := hB.cell 2 _ rfl; have c3 := hB.cell 3 _ rfl; have c4 := hB.cell 4 _ rfl; have c5 := hB.cell 5 _ rfl; have c6 := hB.cell 6 _ rfl; have c7 := hB.cell 7 _ rfl; have c8 := hB.cell 8 _ rfl; have u0 := Box.up hB 0 _ rfl; have u1 := Box.up hB 1 _ rfl; have u2 := Box.up hB 2 _ rfl; have u3 := Box.up hB 3 _ rfl; have u4 := Box.up hB 4 _ rfl; have u5 := Box.up hB 5 _ rfl; have u6 := Box.up hB 6 _ rfl; have u7 := Box.up hB 7 _ rfl; have u8 := Box.up hB 8 _ rfl) | (go_at_call 42; refine (check_any _ _ _ _ _ _ HQ.out _).mono ?_; rintro e w' ⟨rfl, b1⟩; have hb := hb.trans b1; have hB := hB.bel b1; clear b1; have c0 := hB.cell 0 _ rfl; have c1 := hB.cell 1 _ rfl; have c2 := hB.cell 2 _ rfl; have c3 := hB.cell 3 _ rfl; have c4 := hB.cell 4 _ rfl; have c5 := hB.cell 5 _ rfl; have c6 := hB.cell 6 _ rfl; have c7 := hB.cell 7 _ rfl; have c8 := hB.cell 8 _ rfl; have u0 := Box.up hB 0 _ rfl; have u1 := Box.up hB 1 _ rfl; have u2 := Box.up hB 2 _ rfl; have u3 := Box.up hB 3 _ rfl; have u4 := Box.up hB 4 _ rfl; have u5 := Box.up hB 5 _ rfl; have u6 := Box.up hB 6 _ rfl; have u7 := Box.up hB 7 _ rfl; have u8 := Box.up hB 8 _ rfl)); refine region_up (by kernel_rfl) (by kernel_rfl) ?_; (repeat (go_big_quiet_step ((go_at_call 72; exact up_call _ (enough_to _ _ _ HN.out hl _))))); refine wpQuiet_nil ?_; intro _ hw'; obtain ⟨uu, rfl⟩ := hw'; have b1 := uu.b; generalize uu.v = wu at *; clear uu; have hb := hb.trans b1; have hB := hB.bel b1; clear b1; have c0 := hB.cell 0 _ rfl; have c1 := hB.cell 1 _ rfl; have c2 := hB.cell 2 _ rfl; have c3 := hB.cell 3 _ rfl; have c4 := hB.cell 4 _ rfl; have c5 := hB.cell 5 _ rfl; have c6 := hB.cell 6 _ rfl; have c7 := hB.cell 7 _ rfl; have c8 := hB.cell 8 _ rfl; have u0 := Box.up hB 0 _ rfl; have u1 := Box.up hB 1 _ rfl; have u2 := Box.up hB 2 _ rfl; have u3 := Box.up hB 3 _ rfl; have u4 := Box.up hB 4 _ rfl; have u5 := Box.up hB 5 _ rfl; have u6 := Box.up hB 6 _ rfl; have u7 := Box.up hB 7 _ rfl; have u8 := Box.up hB 8 _ rfl)
    go_wp2_with (first | (go_at_call 54; refine (isF_to _ _ HI.out _).mono ?_; rintro e w' ⟨rfl, rfl⟩) | (go_at_call 101; refine (emptyF_to _ _ _ _ _ _ HE.out _).mono ?_; rintro e w' ⟨rfl, b1⟩; have hb := hb.trans b1; have hB := hB.bel b1; clear b1; have c0 := hB.cell 0 _ rfl; have c1 := hB.cell 1 _ rfl; have c2 := hB.cell 2 _ rfl; have c3 := hB.cell 3 _ rfl; have c4 := hB.cell 4 _ rfl; have c5 := hB.cell 5 _ rfl; have c6 := hB.cell 6 _ rfl; have c7 := hB.cell 7 _ rfl; have c8 := hB.cell 8 _ rfl; have u0 := Box.up hB 0 _ rfl; have u1 := Box.up hB 1 _ rfl; have u2 := Box.up hB 2 _ rfl; have u3 := Box.up hB 3 _ rfl; have u4 := Box.up hB 4 _ rfl; have u5 := Box.up hB 5 _ rfl; have u6 := Box.up hB 6 _ rfl; have u7 := Box.up hB 7 _ rfl; have u8 := Box.up hB 8 _ rfl) | (go_at_call 42; refine (check_any _ _ _ _ _ _ HQ.out _).mono ?_; rintro e w' ⟨rfl, b1⟩; have hb := hb.trans b1; have hB := hB.bel b1; clear b1; have c0 := hB.cell 0 _ rfl; have c1 := hB.cell 1 _ rfl; have c2 := hB.cell 2 _ rfl; have c3 := hB.cell 3 _ rfl; have c4 := hB.cell 4 _ rfl; have c5 := hB.cell 5 _ rfl; have c6 := hB.cell 6 _ rfl; have c7 := hB.cell 7 _ rfl; have c8 := hB.cell 8 _ rfl; have u0 := Box.up hB 0 _ rfl; have u1 := Box.up hB 1 _ rfl; have u2 := Box.up hB 2 _ rfl; have u3 := Box.up hB 3 _ rfl; have u4 := Box.up hB 4 _ rfl; have u5 := Box.up hB 5 _ rfl; have u6 := Box.up hB 6 _ rfl; have u7 := Box.up hB 7 _ rfl; have u8 := Box.up hB 8 _ rfl))
    go_ret
    exact ⟨rfl, hb⟩
  · have g1 : (en != 0) = true := by simp; omega
    have g2 : (en == 0) = false := by simp; omega
    have g3 : decide (wy < 0) = false := by simp; omega
    have g4 : decide (4 < wy) = false := by simp; omega
    have g5 : (wy == 0) = false := by simp; omega
    have g6 : (wy != 0) = true := by simp; omega
    have g8 : (se != en) = true := by simpa using h4
    have HI := Lib.hid ((M.isEnc_iff en).2 h1)
    obtain rfl : wt = ⟨#[]⟩ := by
      apply ByteArray.ext
      simpa using h3
    clear h1 h2 h3 h4
    clear hk
    go_enter Tryz.func70, Tryz.ntmps70
    repeat (go_wp2_with (first | (go_at_call 54; refine (isF_to _ _ HI.out _).mono ?_; rintro e w' ⟨rfl, rfl⟩) | (go_at_call 101; refine (emptyF_to _ _ _ _ _ _ HE.out _).mono ?_; rintro e w' ⟨rfl, b1⟩; have hb := hb.trans b1; have hB := hB.bel b1; clear b1; have c0 := hB.cell 0 _ rfl; have c1 := hB.cell 1 _ rfl; have c2 := hB.cell 2 _ rfl; have c3 := hB.cell 3 _ rfl; have c4 := hB.cell 4 _ rfl; have c5 := hB.cell 5 _ rfl; have c6 := hB.cell 6 _ rfl; have c7 := hB.cell 7 _ rfl; have c8 := hB.cell 8 _ rfl; have u0 := Box.up hB 0 _ rfl; have u1 := Box.up hB 1 _ rfl; have u2 := Box.up hB 2 _ rfl; have u3 := Box.up hB 3 _ rfl; have u4 := Box.up hB 4 _ rfl; have u5 := Box.up hB 5 _ rfl; have u6 := Box.up hB 6 _ rfl; have u7 := Box.up hB 7 _ rfl; have u8 := Box.up hB 8 _ rfl) | (go_at_call 42; refine (check_any _ _ _ _ _ _ HQ.out _).mono ?_; rintro e w' ⟨rfl, b1⟩; have hb := hb.trans b1; have hB := hB.bel b1; clear b1; have c0 := hB.cell 0 _ rfl; have c1 := hB.cell 1 _ rfl; have c2 := hB.cell 2 _ rfl; have c3 := hB.cell 3 _ rfl; have c4 := hB.cell 4 _ rfl; have c5 := hB.cell 5 _ rfl; have c6 := hB.cell 6 _ rfl; have c7 := hB.cell 7 _ rfl; have c8 := hB.cell 8 _ rfl; have u0 := Box.up hB 0 _ rfl; have u1 := Box.up hB 1 _ rfl; have u2 := Box.up hB 2 _ rfl; have u3 := Box.up hB 3 _ rfl; have u4 := Box.up hB 4 _ rfl; have u5 := Box.up hB 5 _ rfl; have u6 := Box.up hB 6 _ rfl; have u7 := Box.up hB 7 _ rfl; have u8 := Box.up hB 8 _ rfl)); refine region_up (by kernel_rfl) (by kernel_rfl) ?_; (repeat (go_big_quiet_step ((go_at_call 72; exact up_call _ (enough_to _ _ _ HN.out hl _))))); refine wpQuiet_nil ?_; intro _ hw'; obtain ⟨uu, rfl⟩ := hw'; have b1 := uu.b; generalize uu.v = wu at *; clear uu; have hb := hb.trans b1; have hB := hB.bel b1; clear b1; have c0 := hB.cell 0 _ rfl; have c1 := hB.cell 1 _ rfl; have c2 := hB.cell 2 _ rfl; have c3 := hB.cell 3 _ rfl; have c4 := hB.cell 4 _ rfl; have c5 := hB.cell 5 _ rfl; have c6 := hB.cell 6 _ rfl; have c7 := hB.cell 7 _ rfl; have c8 := hB.cell 8 _ rfl; have u0 := Box.up hB 0 _ rfl; have u1 := Box.up hB 1 _ rfl; have u2 := Box.up hB 2 _ rfl; have u3 := Box.up hB 3 _ rfl; have u4 := Box.up hB 4 _ rfl; have u5 := Box.up hB 5 _ rfl; have u6 := Box.up hB 6 _ rfl; have u7 := Box.up hB 7 _ rfl; have u8 := Box.up hB 8 _ rfl)
    go_wp2_with (first | (go_at_call 54; refine (isF_to _ _ HI.out _).mono ?_; rintro e w' ⟨rfl, rfl⟩) | (go_at_call 101; refine (emptyF_to _ _ _ _ _ _ HE.out _).mono ?_; rintro e w' ⟨rfl, b1⟩; have hb := hb.trans b1; have hB := hB.bel b1; clear b1; have c0 := hB.cell 0 _ rfl; have c1 := hB.cell 1 _ rfl; have c2 := hB.cell 2 _ rfl; have c3 := hB.cell 3 _ rfl; have c4 := hB.cell 4 _ rfl; have c5 := hB.cell 5 _ rfl; have c6 := hB.cell 6 _ rfl; have c7 := hB.cell 7 _ rfl; have c8 := hB.cell 8 _ rfl; have u0 := Box.up hB 0 _ rfl; have u1 := Box.up hB 1 _ rfl; have u2 := Box.up hB 2 _ rfl; have u3 := Box.up hB 3 _ rfl; have u4 := Box.up hB 4 _ rfl; have u5 := Box.up hB 5 _ rfl; have u6 := Box.up hB 6 _ rfl; have u7 := Box.up hB 7 _ rfl; have u8 := Box.up hB 8 _ rfl) | (go_at_call 42; refine (check_any _ _ _ _ _ _ HQ.out _).mono ?_; rintro e w' ⟨rfl, b1⟩; have hb := hb.trans b1; have hB := hB.bel b1; clear b1; have c0 := hB.cell 0 _ rfl; have c1 := hB.cell 1 _ rfl; have c2 := hB.cell 2 _ rfl; have c3 := hB.cell 3 _ rfl; have c4 := hB.cell 4 _ rfl; have c5 := hB.cell 5 _ rfl; have c6 := hB.cell 6 _ rfl; have c7 := hB.cell 7 _ rfl; have c8 := hB.cell 8 _ rfl; have u0 := Box.up hB 0 _ rfl; have u1 := Box.up hB 1 _ rfl; have u2 := Box.up hB 2 _ rfl; have u3 := Box.up hB 3 _ rfl; have u4 := Box.up hB 4 _ rfl; have u5 := Box.up hB 5 _ rfl; have u6 := Box.up hB 6 _ rfl; have u7 := Box.up hB 7 _ rfl; have u8 := Box.up hB 8 _ rfl))
    go_ret
    exact ⟨rfl, hb⟩
  · have g1 : (se != 0) = true := by simp; omega
    have g2 : (se == 0) = false := by simp; omega
    have g3 : decide (wy < 0) = false := by simp; omega
    have g4 : decide (4 < wy) = false := by simp; omega
    have g5 : (wy == 0) = false := by simp; omega
    have g6 : (wy != 0) = true := by simp; omega
    have HI := Lib.hid ((M.isEnc_iff se).2 h1)
    obtain rfl : wt = ⟨#[]⟩ := by
      apply ByteArray.ext
      simpa using h3
    have HQ := Lib.hid h5.symm
    clear h1 h2 h3 h5
    clear hk
    go_enter Tryz.func70, Tryz.ntmps70
    repeat (go_wp2_with (first | (go_at_call 54; refine (isF_to _ _ HI.out _).mono ?_; rintro e w' ⟨rfl, rfl⟩) | (go_at_call 101; refine (emptyF_to _ _ _ _ _ _ HE.out _).mono ?_; rintro e w' ⟨rfl, b1⟩; have hb := hb.trans b1; have hB := hB.bel b1; clear b1; have c0 := hB.cell 0 _ rfl; have c1 := hB.cell 1 _ rfl; have c2 := hB.cell 2 _ rfl; have c3 := hB.cell 3 _ rfl; have c4 := hB.cell 4 _ rfl; have c5 := hB.cell 5 _ rfl; have c6 := hB.cell 6 _ rfl; have c7 := hB.cell 7 _ rfl; have c8 := hB.cell 8 _ rfl; have u0 := Box.up hB 0 _ rfl; have u1 := Box.up hB 1 _ rfl; have u2 := Box.up hB 2 _ rfl; have u3 := Box.up hB 3 _ rfl; have u4 := Box.up hB 4 _ rfl; have u5 := Box.up hB 5 _ rfl; have u6 := Box.up hB 6 _ rfl; have u7 := Box.up hB 7 _ rfl; have u8 := Box.up hB 8 _ rfl) | (go_at_call 42; refine (check_any _ _ _ _ _ _ HQ.out _).mono ?_; rintro e w' ⟨rfl, b1⟩; have hb := hb.trans b1; have hB := hB.bel b1; clear b1; have c0 := hB.cell 0 _ rfl; have c1 := hB.cell 1 _ rfl; have c2 := hB.cell 2 _ rfl; have c3 := hB.cell 3 _ rfl; have c4 := hB.cell 4 _ rfl; have c5 := hB.cell 5 _ rfl; have c6 := hB.cell 6 _ rfl; have c7 := hB.cell 7 _ rfl; have c8 := hB.cell 8 _ rfl; have u0 := Box.up hB 0 _ rfl; have u1 := Box.up hB 1 _ rfl; have u2 := Box.up hB 2 _ rfl; have u3 := Box.up hB 3 _ rfl; have u4 := Box.up hB 4 _ rfl; have u5 := Box.up hB 5 _ rfl; have u6 := Box.up hB 6 _ rfl; have u7 := Box.up hB 7 _ rfl; have u8 := Box.up hB 8 _ rfl)); refine region_up (by kernel_rfl) (by kernel_rfl) ?_; (repeat (go_big_quiet_step ((go_at_call 72; exact up_call _ (enough_to _ _ _ HN.out hl _))))); refine wpQuiet_nil ?_; intro _ hw'; obtain ⟨uu, rfl⟩ := hw'; have b1 := uu.b; generalize uu.v = wu at *; clear uu; have hb := hb.trans b1; have hB := hB.bel b1; clear b1; have c0 := hB.cell 0 _ rfl; have c1 := hB.cell 1 _ rfl; have c2 := hB.cell 2 _ rfl; have c3 := hB.cell 3 _ rfl; have c4 := hB.cell 4 _ rfl; have c5 := hB.cell 5 _ rfl; have c6 := hB.cell 6 _ rfl; have c7 := hB.cell 7 _ rfl; have c8 := hB.cell 8 _ rfl; have u0 := Box.up hB 0 _ rfl; have u1 := Box.up hB 1 _ rfl; have u2 := Box.up hB 2 _ rfl; have u3 := Box.up hB 3 _ rfl; have u4 := Box.up hB 4 _ rfl; have u5 := Box.up hB 5 _ rfl; have u6 := Box.up hB 6 _ rfl; have u7 := Box.up hB 7 _ rfl; have u8 := Box.up hB 8 _ rfl)
    go_wp2_with (first | (go_at_call 54; refine (isF_to _ _ HI.out _).mono ?_; rintro e w' ⟨rfl, rfl⟩) | (go_at_call 101; refine (emptyF_to _ _ _ _ _ _ HE.out _).mono ?_; rintro e w' ⟨rfl, b1⟩; have hb := hb.trans b1; have hB := hB.bel b1; clear b1; have c0 := hB.cell 0 _ rfl; have c1 := hB.cell 1 _ rfl; have c2 := hB.cell 2 _ rfl; have c3 := hB.cell 3 _ rfl; have c4 := hB.cell 4 _ rfl; have c5 := hB.cell 5 _ rfl; have c6 := hB.cell 6 _ rfl; have c7 := hB.cell 7 _ rfl; have c8 := hB.cell 8 _ rfl; have u0 := Box.up hB 0 _ rfl; have u1 := Box.up hB 1 _ rfl; have u2 := Box.up hB 2 _ rfl; have u3 := Box.up hB 3 _ rfl; have u4 := Box.up hB 4 _ rfl; have u5 := Box.up hB 5 _ rfl; have u6 := Box.up hB 6 _ rfl; have u7 := Box.up hB 7 _ rfl; have u8 := Box.up hB 8 _ rfl) | (go_at_call 42; refine (check_any _ _ _ _ _ _ HQ.out _).mono ?_; rintro e w' ⟨rfl, b1⟩; have hb := hb.trans b1; have hB := hB.bel b1; clear b1; have c0 := hB.cell 0 _ rfl; have c1 := hB.cell 1 _ rfl; have c2 := hB.cell 2 _ rfl; have c3 := hB.cell 3 _ rfl; have c4 := hB.cell 4 _ rfl; have c5 := hB.cell 5 _ rfl; have c6 := hB.cell 6 _ rfl; have c7 := hB.cell 7 _ rfl; have c8 := hB.cell 8 _ rfl; have u0 := Box.up hB 0 _ rfl; have u1 := Box.up hB 1 _ rfl; have u2 := Box.up hB 2 _ rfl; have u3 := Box.up hB 3 _ rfl; have u4 := Box.up hB 4 _ rfl; have u5 := Box.up hB 5 _ rfl; have u6 := Box.up hB 6 _ rfl; have u7 := Box.up hB 7 _ rfl; have u8 := Box.up hB 8 _ rfl))
    go_ret
    exact ⟨rfl, hb⟩
end Go.Proofs.YteingkjdemlhgaaGreatDoor

/-
  Package front: the chooser is fed.
-/
namespace Go.Proofs.YteingkjdemlhgaaGreatDoor
open Go.RowKit
set_option maxRecDepth 1000000
set_option maxHeartbeats 1000000
def ftC (F : M.Ft) : List Value := [.string ⟨F.label.toArray⟩, .int .i64 F.enc, .int .i64 F.why, .string ⟨F.wait.toArray⟩, .int .i64 F.state.enc, .string ⟨F.state.rest.toArray⟩, .int .i64 F.state.signs, .bool F.state.fresh, .bool F.state.stopped]
theorem str_back (a : ByteArray) : (⟨a.data.toList.toArray⟩ : ByteArray) = a := by apply ByteArray.ext; simp
theorem str_app (a b : ByteArray) : (⟨(a.data.toList ++ b.data.toList).toArray⟩ : ByteArray) = a ++ b := by apply ByteArray.ext; simp
/-- Bytes wait. -/
theorem feedA_wait (g : Nat) (lb wt : ByteArray) (b : ByteArray) (hl : lb.size ≤ 3000) (hw : wt.size ≤ 3000) (hb3 : b.size ≤ 3000) (hn : M.enough lb.data.toList (wt ++ b).data.toList = false) (w : World)
    (hB : Box w g 78 [.string lb, .int .i64 0, .int .i64 0, .string wt, .int .i64 0, .string ⟨#[]⟩, .int .i64 0, .bool false, .bool false]) :
    Calls Tryz.prog 40 #[.pointer (some ⟨g, 0, none⟩), .string b, .bool false] w fun e w' => e = .returned (.slice none 0 0) ∧ Box w' g 78 [.string lb, .int .i64 0, .int .i64 0, .string (wt ++ b), .int .i64 0, .string ⟨#[]⟩, .int .i64 0, .bool false, .bool false] ∧ Below g w w' := by
  have HN := Lib.hid hn
  have hlt := hB.lt
  have c0 := hB.cell 0 _ rfl; have c1 := hB.cell 1 _ rfl; have c2 := hB.cell 2 _ rfl; have c3 := hB.cell 3 _ rfl; have c4 := hB.cell 4 _ rfl; have c5 := hB.cell 5 _ rfl; have c6 := hB.cell 6 _ rfl; have c7 := hB.cell 7 _ rfl; have c8 := hB.cell 8 _ rfl; have f0 := hB.frozen 0; have f1 := hB.frozen 1; have f2 := hB.frozen 2; have f3 := hB.frozen 3; have f4 := hB.frozen 4; have f5 := hB.frozen 5; have f6 := hB.frozen 6; have f7 := hB.frozen 7; have f8 := hB.frozen 8
  clear hn
  go_enter Tryz.func40, Tryz.ntmps40
  go_wp2_with fail
  refine (enough_to lb (wt ++ b) _ HN.out (by omega) _).mono ?_
  rintro e w1 ⟨rfl, b1⟩
  have hB1 := Box.bel (hB.set 3 (.string (wt ++ b))) b1
  have k1 : Below g w (w.setCell ⟨g, 3, none⟩ (.string (wt ++ b))) := Below.setCell (Below.refl g w) (Nat.le_refl _) _
  have k2 : Below g w w1 := Below.trans k1 (Below.mono b1 (by simp; omega))
  go_wp2_with fail
  go_ret
  exact ⟨rfl, hB1, k2⟩
/-- Bytes come to a decoder that is chosen. -/
theorem feedC_on (g : Nat) (lb : ByteArray) (en wy : Int) (se : Int) (rs : ByteArray) (sg : Int) (fr st : Bool) (b : ByteArray) (last : Bool) (hy : wy ≠ 0) (hr : M.Right ⟨se, rs.data.toList, sg, fr, st⟩) (hsz : b.size ≤ 9000) (xs : List Int) (d2 : M.St) (h : M.rawM ⟨se, rs.data.toList, sg, fr, st⟩ b.data.toList last = (xs, d2)) (w : World)
    (hB : Box w g 78 [.string lb, .int .i64 en, .int .i64 wy, .string ⟨#[]⟩, .int .i64 se, .string rs, .int .i64 sg, .bool fr, .bool st]) :
    Calls Tryz.prog 40 #[.pointer (some ⟨g, 0, none⟩), .string b, .bool last] w fun e w' => ∃ v, e = .returned v ∧ Own w.heap.size 3 w' v (xs.map (Value.int .i64)) ∧ Box w' g 78 [.string lb, .int .i64 en, .int .i64 wy, .string ⟨#[]⟩, .int .i64 d2.enc, .string ⟨d2.rest.toArray⟩, .int .i64 d2.signs, .bool d2.fresh, .bool d2.stopped] ∧ Below g w w' := by
  have HR := Lib.hid hr
  have HW := Lib.hid h
  have g5 : (wy == 0) = false := by simpa using hy
  have hlt := hB.lt
  clear hr h hy
  have c0 := hB.cell 0 _ rfl; have c1 := hB.cell 1 _ rfl; have c2 := hB.cell 2 _ rfl; have c3 := hB.cell 3 _ rfl; have c4 := hB.cell 4 _ rfl; have c5 := hB.cell 5 _ rfl; have c6 := hB.cell 6 _ rfl; have c7 := hB.cell 7 _ rfl; have c8 := hB.cell 8 _ rfl; have f0 := hB.frozen 0; have f1 := hB.frozen 1; have f2 := hB.frozen 2; have f3 := hB.frozen 3; have f4 := hB.frozen 4; have f5 := hB.frozen 5; have f6 := hB.frozen 6; have f7 := hB.frozen 7; have f8 := hB.frozen 8
  go_enter Tryz.func40, Tryz.ntmps40
  go_wp2_with fail
  refine (rawS_any _ _ _ _ _ _ _ HR.out hsz _ _ HW.out _).mono ?_
  rintro e w3 ⟨v2, rfl, o2, b2⟩
  rw [stV]
  have hB2 := hB
  have hB3 := Box.bel hB2 b2
  have hN := Box.new w3 23 [.int .i64 d2.enc, .string ⟨d2.rest.toArray⟩, .int .i64 d2.signs, .bool d2.fresh, .bool d2.stopped]
  have hB4 := hB3.bel ((Bel.refl w3).alloc (.cells #[.int .i64 d2.enc, .string ⟨d2.rest.toArray⟩, .int .i64 d2.signs, .bool d2.fresh, .bool d2.stopped] 23))
  have hlt3 := hB3.lt
  have hgN : g ≠ w3.heap.size := by omega
  have k1 : Below g w (w3.alloc (.cells #[.int .i64 d2.enc, .string ⟨d2.rest.toArray⟩, .int .i64 d2.signs, .bool d2.fresh, .bool d2.stopped] 23)) := Below.mono (b2.alloc _) (by omega)
  have o4 := o2.alloc (.cells #[.int .i64 d2.enc, .string ⟨d2.rest.toArray⟩, .int .i64 d2.signs, .bool d2.fresh, .bool d2.stopped] 23)
  clear hB hB2 hB3 o2 b2
  go_upto_region 10 with fail
  generalize (w3.alloc (.cells #[.int .i64 d2.enc, .string ⟨d2.rest.toArray⟩, .int .i64 d2.signs, .bool d2.fresh, .bool d2.stopped] 23)) = W at *
  generalize w3.heap.size = q at *
  have gq : ¬ q = g := fun h9 => hgN h9.symm
  have c0 := hB4.cell 0 _ rfl; have c1 := hB4.cell 1 _ rfl; have c2 := hB4.cell 2 _ rfl; have c3 := hB4.cell 3 _ rfl; have c4 := hB4.cell 4 _ rfl; have c5 := hB4.cell 5 _ rfl; have c6 := hB4.cell 6 _ rfl; have c7 := hB4.cell 7 _ rfl; have c8 := hB4.cell 8 _ rfl; have f0 := hB4.frozen 0; have f1 := hB4.frozen 1; have f2 := hB4.frozen 2; have f3 := hB4.frozen 3; have f4 := hB4.frozen 4; have f5 := hB4.frozen 5; have f6 := hB4.frozen 6; have f7 := hB4.frozen 7; have f8 := hB4.frozen 8
  have n0 := hN.cell 0 _ rfl
  have n1 := hN.cell 1 _ rfl
  have n2 := hN.cell 2 _ rfl
  have n3 := hN.cell 3 _ rfl
  have n4 := hN.cell 4 _ rfl
  clear hN
  go_wp2_with fail
  go_ret
  exact ⟨_, rfl, ((((o4.setCell (p := ⟨g, 4, none⟩) hlt _).setCell (p := ⟨g, 5, none⟩) hlt _).setCell (p := ⟨g, 6, none⟩) hlt _).setCell (p := ⟨g, 7, none⟩) hlt _).setCell (p := ⟨g, 8, none⟩) hlt _,
    ((((hB4.set 4 _).set 5 _).set 6 _).set 7 _).set 8 _, ((((k1.setCell (p := ⟨g, 4, none⟩) (Nat.le_refl _) _).setCell (p := ⟨g, 5, none⟩) (Nat.le_refl _) _).setCell (p := ⟨g, 6, none⟩) (Nat.le_refl _) _).setCell (p := ⟨g, 7, none⟩) (Nat.le_refl _) _).setCell (p := ⟨g, 8, none⟩) (Nat.le_refl _) _⟩
theorem Len.far {w : World} {g : Nat} {s : ByteArray} (h : Len w) (hc : w.cell? ⟨g, 0, none⟩ = some (.string s)) (i : Nat) (v : Value) : Len (w.setCell ⟨g, i, none⟩ v) := by
  obtain ⟨m, hm⟩ := h
  have hne : 0 ≠ g := by
    intro e
    rw [← e, hm] at hc
    cases hc
  refine ⟨m, ?_⟩
  unfold World.cell? at hm ⊢
  rw [Below.heap_setCell w ⟨g, i, none⟩ v _ hne]
  exact hm
/-- Bytes come, and it is chosen. -/
theorem feedB_ch (g : Nat) (lb wt : ByteArray) (b : ByteArray) (last : Bool) (hl : lb.size ≤ 3000) (hw : wt.size ≤ 3000) (hb3 : b.size ≤ 3000) (hn : last = true ∨ M.enough lb.data.toList (wt ++ b).data.toList = true)
    (n y : Int) (k : Nat) (hc : M.chosen lb.data.toList (wt ++ b).data.toList = (n, y, (k : Int))) (hkz : k ≤ (wt ++ b).size) (hi : M.isEnc n = true) (xs : List Int) (d2 : M.St)
    (h : M.rawM (M.opn n) ((wt ++ b).extract k (wt ++ b).size).data.toList last = (xs, d2)) (w : World) (hL : Len w)
    (hB : Box w g 78 [.string lb, .int .i64 0, .int .i64 0, .string wt, .int .i64 0, .string ⟨#[]⟩, .int .i64 0, .bool false, .bool false]) :
    Calls Tryz.prog 40 #[.pointer (some ⟨g, 0, none⟩), .string b, .bool last] w fun e w' => ∃ v, e = .returned v ∧ Own w.heap.size 3 w' v (xs.map (Value.int .i64)) ∧ Box w' g 78 [.string lb, .int .i64 n, .int .i64 y, .string ⟨#[]⟩, .int .i64 d2.enc, .string ⟨d2.rest.toArray⟩, .int .i64 d2.signs, .bool d2.fresh, .bool d2.stopped] ∧ Below g w w' := by
  have hz1 : (wt ++ b).size = wt.size + b.size := by rw [Lib.size_eq, data_append, List.length_append, ← Lib.size_eq, ← Lib.size_eq]
  obtain ⟨z, hz⟩ : ∃ z, wt ++ b = z := ⟨_, rfl⟩
  rw [hz] at hn hc hkz h hz1
  have HR := Lib.hid (show M.Right ⟨n, (⟨#[]⟩ : ByteArray).data.toList, 0, false, false⟩ from M.right_opn n hi)
  have HC := Lib.hid hc
  have HW := Lib.hid (show M.rawM ⟨n, (⟨#[]⟩ : ByteArray).data.toList, 0, false, false⟩ (z.extract k z.size).data.toList last = (xs, d2) from h)
  have hkk : (0 : Int) ≤ (k : Int) ∧ (k : Int) ≤ (z.size : Int) := by omega
  have hsz : (z.extract k z.size).size ≤ 9000 := by rw [ByteArray.size_extract]; omega
  have hlt := hB.lt
  have hL1 := hL.far (hB.cell 0 _ rfl) 3 (.string z)
  have k1 : Below g w (w.setCell ⟨g, 3, none⟩ (.string z)) := Below.setCell (Below.refl g w) (Nat.le_refl _) _
  have hB1 := hB.set 3 (.string z)
  have hz6 : z.size ≤ 6000 := by omega
  have hkk2 : k ≤ z.size := hkz
  clear hc h hi hz1
  have c0 := hB.cell 0 _ rfl; have c1 := hB.cell 1 _ rfl; have c2 := hB.cell 2 _ rfl; have c3 := hB.cell 3 _ rfl; have c4 := hB.cell 4 _ rfl; have c5 := hB.cell 5 _ rfl; have c6 := hB.cell 6 _ rfl; have c7 := hB.cell 7 _ rfl; have c8 := hB.cell 8 _ rfl; have f0 := hB.frozen 0; have f1 := hB.frozen 1; have f2 := hB.frozen 2; have f3 := hB.frozen 3; have f4 := hB.frozen 4; have f5 := hB.frozen 5; have f6 := hB.frozen 6; have f7 := hB.frozen 7; have f8 := hB.frozen 8
  cases last with
  | true =>
    clear hn
    go_enter Tryz.func40, Tryz.ntmps40
    go_wp2_with fail
    refine (chosen_to lb z _ _ _ HC.out (by omega) (by omega) _ hL1).mono ?_
    rintro e w2 ⟨rfl, b2⟩
    have hB2 := Box.bel hB1 b2
    have hlt2 := hB2.lt
    have k2 : Below g w w2 := Below.trans k1 (Below.mono b2 (by simp; omega))
    clear b2
    have c0 := hB2.cell 0 _ rfl; have c1 := hB2.cell 1 _ rfl; have c2 := hB2.cell 2 _ rfl; have c3 := hB2.cell 3 _ rfl; have c4 := hB2.cell 4 _ rfl; have c5 := hB2.cell 5 _ rfl; have c6 := hB2.cell 6 _ rfl; have c7 := hB2.cell 7 _ rfl; have c8 := hB2.cell 8 _ rfl; have f0 := hB2.frozen 0; have f1 := hB2.frozen 1; have f2 := hB2.frozen 2; have f3 := hB2.frozen 3; have f4 := hB2.frozen 4; have f5 := hB2.frozen 5; have f6 := hB2.frozen 6; have f7 := hB2.frozen 7; have f8 := hB2.frozen 8
    go_wp2_with fail
    refine (rawS_any n ⟨#[]⟩ 0 false false (z.extract k z.size) _ HR.out hsz _ _ HW.out _).mono ?_
    rintro e w3 ⟨v2, rfl, o2, b3⟩
    rw [stV]
    have hB3 := Box.bel ((((((((hB2.set 1 (.int .i64 n)).set 2 (.int .i64 y)).set 3 (.string ⟨#[]⟩)).set 4 (.int .i64 n)).set 5 (.string ⟨#[]⟩)).set 6 (.int .i64 0)).set 7 (.bool false)).set 8 (.bool false)) b3
    have k3 : Below g w w3 := Below.trans ((((((((k2.setCell (p := ⟨g, 1, none⟩) (Nat.le_refl _) (.int .i64 n)).setCell (p := ⟨g, 2, none⟩) (Nat.le_refl _) (.int .i64 y)).setCell (p := ⟨g, 3, none⟩) (Nat.le_refl _) (.string ⟨#[]⟩)).setCell (p := ⟨g, 4, none⟩) (Nat.le_refl _) (.int .i64 n)).setCell (p := ⟨g, 5, none⟩) (Nat.le_refl _) (.string ⟨#[]⟩)).setCell (p := ⟨g, 6, none⟩) (Nat.le_refl _) (.int .i64 0)).setCell (p := ⟨g, 7, none⟩) (Nat.le_refl _) (.bool false)).setCell (p := ⟨g, 8, none⟩) (Nat.le_refl _) (.bool false)) (Below.mono b3 (by simp; omega))
    have o3 := o2.mono (show w.heap.size ≤ _ by simp; exact k2.size)
    clear o2 b3 hB2 k2
    have hB4 := hB3.bel ((Bel.refl w3).alloc (.cells #[.int .i64 d2.enc, .string ⟨d2.rest.toArray⟩, .int .i64 d2.signs, .bool d2.fresh, .bool d2.stopped] 23))
    have hlt3 := hB3.lt
    have hgN : g ≠ w3.heap.size := by omega
    have hN := Box.new w3 23 [.int .i64 d2.enc, .string ⟨d2.rest.toArray⟩, .int .i64 d2.signs, .bool d2.fresh, .bool d2.stopped]
    have k4 : Below g w (w3.alloc (.cells #[.int .i64 d2.enc, .string ⟨d2.rest.toArray⟩, .int .i64 d2.signs, .bool d2.fresh, .bool d2.stopped] 23)) := Below.trans k3 (Below.mono ((Bel.refl w3).alloc _) (by omega))
    have o4 := o3.alloc (.cells #[.int .i64 d2.enc, .string ⟨d2.rest.toArray⟩, .int .i64 d2.signs, .bool d2.fresh, .bool d2.stopped] 23)
    clear hB3 o3 k3
    go_upto_region 10 with fail
    generalize (w3.alloc (.cells #[.int .i64 d2.enc, .string ⟨d2.rest.toArray⟩, .int .i64 d2.signs, .bool d2.fresh, .bool d2.stopped] 23)) = W at *
    generalize w3.heap.size = q at *
    have gq : ¬ q = g := fun h9 => hgN h9.symm
    have c0 := hB4.cell 0 _ rfl; have c1 := hB4.cell 1 _ rfl; have c2 := hB4.cell 2 _ rfl; have c3 := hB4.cell 3 _ rfl; have c4 := hB4.cell 4 _ rfl; have c5 := hB4.cell 5 _ rfl; have c6 := hB4.cell 6 _ rfl; have c7 := hB4.cell 7 _ rfl; have c8 := hB4.cell 8 _ rfl; have f0 := hB4.frozen 0; have f1 := hB4.frozen 1; have f2 := hB4.frozen 2; have f3 := hB4.frozen 3; have f4 := hB4.frozen 4; have f5 := hB4.frozen 5; have f6 := hB4.frozen 6; have f7 := hB4.frozen 7; have f8 := hB4.frozen 8
    have n0 := hN.cell 0 _ rfl
    have n1 := hN.cell 1 _ rfl
    have n2 := hN.cell 2 _ rfl
    have n3 := hN.cell 3 _ rfl
    have n4 := hN.cell 4 _ rfl
    clear hN
    go_wp2_with fail
    go_ret
    exact ⟨_, rfl, ((((o4.setCell (p := ⟨g, 4, none⟩) hlt _).setCell (p := ⟨g, 5, none⟩) hlt _).setCell (p := ⟨g, 6, none⟩) hlt _).setCell (p := ⟨g, 7, none⟩) hlt _).setCell (p := ⟨g, 8, none⟩) hlt _,
      ((((hB4.set 4 _).set 5 _).set 6 _).set 7 _).set 8 _, ((((k4.setCell (p := ⟨g, 4, none⟩) (Nat.le_refl _) _).setCell (p := ⟨g, 5, none⟩) (Nat.le_refl _) _).setCell (p := ⟨g, 6, none⟩) (Nat.le_refl _) _).setCell (p := ⟨g, 7, none⟩) (Nat.le_refl _) _).setCell (p := ⟨g, 8, none⟩) (Nat.le_refl _) _⟩
  | false =>
    have HN := Lib.hid (show M.enough lb.data.toList z.data.toList = true by rcases hn with h | h; cases h; exact h)
    clear hn
    go_enter Tryz.func40, Tryz.ntmps40
    go_wp2_with fail
    refine (enough_to lb z _ HN.out (by omega) _).mono ?_
    rintro e w1 ⟨rfl, b1⟩
    have hL2 := hL1.bel b1
    have hB5 := hB1.bel b1
    have hlt5 := hB5.lt
    have k5 : Below g w w1 := Below.trans k1 (Below.mono b1 (by simp; omega))
    have c0 := hB5.cell 0 _ rfl; have c1 := hB5.cell 1 _ rfl; have c2 := hB5.cell 2 _ rfl; have c3 := hB5.cell 3 _ rfl; have c4 := hB5.cell 4 _ rfl; have c5 := hB5.cell 5 _ rfl; have c6 := hB5.cell 6 _ rfl; have c7 := hB5.cell 7 _ rfl; have c8 := hB5.cell 8 _ rfl; have f0 := hB5.frozen 0; have f1 := hB5.frozen 1; have f2 := hB5.frozen 2; have f3 := hB5.frozen 3; have f4 := hB5.frozen 4; have f5 := hB5.frozen 5; have f6 := hB5.frozen 6; have f7 := hB5.frozen 7; have f8 := hB5.frozen 8
    go_wp2_with fail
    refine (chosen_to lb z _ _ _ HC.out (by omega) (by omega) _ hL2).mono ?_
    rintro e w2 ⟨rfl, b2⟩
    have hB2 := Box.bel hB5 b2
    have hlt2 := hB2.lt
    have k2 : Below g w w2 := Below.trans k5 (Below.mono b2 (by omega))
    clear b2
    have c0 := hB2.cell 0 _ rfl; have c1 := hB2.cell 1 _ rfl; have c2 := hB2.cell 2 _ rfl; have c3 := hB2.cell 3 _ rfl; have c4 := hB2.cell 4 _ rfl; have c5 := hB2.cell 5 _ rfl; have c6 := hB2.cell 6 _ rfl; have c7 := hB2.cell 7 _ rfl; have c8 := hB2.cell 8 _ rfl; have f0 := hB2.frozen 0; have f1 := hB2.frozen 1; have f2 := hB2.frozen 2; have f3 := hB2.frozen 3; have f4 := hB2.frozen 4; have f5 := hB2.frozen 5; have f6 := hB2.frozen 6; have f7 := hB2.frozen 7; have f8 := hB2.frozen 8
    go_wp2_with fail
    refine (rawS_any n ⟨#[]⟩ 0 false false (z.extract k z.size) _ HR.out hsz _ _ HW.out _).mono ?_
    rintro e w3 ⟨v2, rfl, o2, b3⟩
    rw [stV]
    have hB3 := Box.bel ((((((((hB2.set 1 (.int .i64 n)).set 2 (.int .i64 y)).set 3 (.string ⟨#[]⟩)).set 4 (.int .i64 n)).set 5 (.string ⟨#[]⟩)).set 6 (.int .i64 0)).set 7 (.bool false)).set 8 (.bool false)) b3
    have k3 : Below g w w3 := Below.trans ((((((((k2.setCell (p := ⟨g, 1, none⟩) (Nat.le_refl _) (.int .i64 n)).setCell (p := ⟨g, 2, none⟩) (Nat.le_refl _) (.int .i64 y)).setCell (p := ⟨g, 3, none⟩) (Nat.le_refl _) (.string ⟨#[]⟩)).setCell (p := ⟨g, 4, none⟩) (Nat.le_refl _) (.int .i64 n)).setCell (p := ⟨g, 5, none⟩) (Nat.le_refl _) (.string ⟨#[]⟩)).setCell (p := ⟨g, 6, none⟩) (Nat.le_refl _) (.int .i64 0)).setCell (p := ⟨g, 7, none⟩) (Nat.le_refl _) (.bool false)).setCell (p := ⟨g, 8, none⟩) (Nat.le_refl _) (.bool false)) (Below.mono b3 (by simp; omega))
    have o3 := o2.mono (show w.heap.size ≤ _ by simp; exact k2.size)
    clear o2 b3 hB2 k2
    have hB4 := hB3.bel ((Bel.refl w3).alloc (.cells #[.int .i64 d2.enc, .string ⟨d2.rest.toArray⟩, .int .i64 d2.signs, .bool d2.fresh, .bool d2.stopped] 23))
    have hlt3 := hB3.lt
    have hgN : g ≠ w3.heap.size := by omega
    have hN := Box.new w3 23 [.int .i64 d2.enc, .string ⟨d2.rest.toArray⟩, .int .i64 d2.signs, .bool d2.fresh, .bool d2.stopped]
    have k4 : Below g w (w3.alloc (.cells #[.int .i64 d2.enc, .string ⟨d2.rest.toArray⟩, .int .i64 d2.signs, .bool d2.fresh, .bool d2.stopped] 23)) := Below.trans k3 (Below.mono ((Bel.refl w3).alloc _) (by omega))
    have o4 := o3.alloc (.cells #[.int .i64 d2.enc, .string ⟨d2.rest.toArray⟩, .int .i64 d2.signs, .bool d2.fresh, .bool d2.stopped] 23)
    clear hB3 o3 k3
    go_upto_region 10 with fail
    generalize (w3.alloc (.cells #[.int .i64 d2.enc, .string ⟨d2.rest.toArray⟩, .int .i64 d2.signs, .bool d2.fresh, .bool d2.stopped] 23)) = W at *
    generalize w3.heap.size = q at *
    have gq : ¬ q = g := fun h9 => hgN h9.symm
    have c0 := hB4.cell 0 _ rfl; have c1 := hB4.cell 1 _ rfl; have c2 := hB4.cell 2 _ rfl; have c3 := hB4.cell 3 _ rfl; have c4 := hB4.cell 4 _ rfl; have c5 := hB4.cell 5 _ rfl; have c6 := hB4.cell 6 _ rfl; have c7 := hB4.cell 7 _ rfl; have c8 := hB4.cell 8 _ rfl; have f0 := hB4.frozen 0; have f1 := hB4.frozen 1; have f2 := hB4.frozen 2; have f3 := hB4.frozen 3; have f4 := hB4.frozen 4; have f5 := hB4.frozen 5; have f6 := hB4.frozen 6; have f7 := hB4.frozen 7; have f8 := hB4.frozen 8
    have n0 := hN.cell 0 _ rfl
    have n1 := hN.cell 1 _ rfl
    have n2 := hN.cell 2 _ rfl
    have n3 := hN.cell 3 _ rfl
    have n4 := hN.cell 4 _ rfl
    clear hN
    go_wp2_with fail
    go_ret
    exact ⟨_, rfl, ((((o4.setCell (p := ⟨g, 4, none⟩) hlt _).setCell (p := ⟨g, 5, none⟩) hlt _).setCell (p := ⟨g, 6, none⟩) hlt _).setCell (p := ⟨g, 7, none⟩) hlt _).setCell (p := ⟨g, 8, none⟩) hlt _,
      ((((hB4.set 4 _).set 5 _).set 6 _).set 7 _).set 8 _, ((((k4.setCell (p := ⟨g, 4, none⟩) (Nat.le_refl _) _).setCell (p := ⟨g, 5, none⟩) (Nat.le_refl _) _).setCell (p := ⟨g, 6, none⟩) (Nat.le_refl _) _).setCell (p := ⟨g, 7, none⟩) (Nat.le_refl _) _).setCell (p := ⟨g, 8, none⟩) (Nat.le_refl _) _⟩
end Go.Proofs.YteingkjdemlhgaaGreatDoor

/-
  Package front: Begin, Check, Feed.
-/
namespace Go.Proofs.YteingkjdemlhgaaGreatDoor
open Go.RowKit
set_option maxRecDepth 1000000
set_option maxHeartbeats 4000000
theorem drop_extF (s : ByteArray) (k : Nat) : (s.extract k s.size).data.toList = s.data.toList.drop k := by
  rw [Lib.extract_data, List.take_of_length_le]
  rw [List.length_drop, ← Lib.size_eq]
  exact Nat.le_refl _
theorem begin_yes (nm : ByteArray) (h : nm.size ≤ 3000) (w : World) : Calls Tryz.prog 10 #[.string nm] w fun e w' => e = .returned (.tuple #[.agg #[.string nm, .int .i64 0, .int .i64 0, .string ⟨#[]⟩, .int .i64 0, .string ⟨#[]⟩, .int .i64 0, .bool false, .bool false], .int .i64 0]) ∧ Bel w w' := by
  have H1 := Lib.hid (decide_eq_false (show ¬ 3000 < nm.size by omega))
  clear h
  go_enter Tryz.func10, Tryz.ntmps10
  go_wp2_with (go_at_call 38; refine (longF_to nm _ H1.out _).mono ?_; rintro e w' ⟨rfl, rfl⟩)
  refine bodyPost_ret (v := .tuple #[.agg #[.string nm, .int .i64 0, .int .i64 0, .string ⟨#[]⟩, .int .i64 0, .string ⟨#[]⟩, .int .i64 0, .bool false, .bool false], .int .i64 0]) (by simp [results, Tryz.results10, go_sem]) rfl ?_
  exact ⟨rfl, (by repeat (first | exact Bel.refl _ | refine Bel.drewN ?_ _ | refine Bel.drew ?_ | refine Bel.alloc ?_ _ | refine Bel.trans ?_ (by assumption) | refine Bel.setCell ?_ (by simp; omega) _))⟩
theorem begin_no (nm : ByteArray) (h : 3000 < nm.size) (w : World) : Calls Tryz.prog 10 #[.string nm] w fun e w' => e = .returned (.tuple #[.agg #[.string ⟨#[]⟩, .int .i64 0, .int .i64 0, .string ⟨#[]⟩, .int .i64 0, .string ⟨#[]⟩, .int .i64 0, .bool false, .bool false], .int .i64 2]) ∧ Bel w w' := by
  have H1 := Lib.hid (decide_eq_true h)
  clear h
  go_enter Tryz.func10, Tryz.ntmps10
  go_wp2_with (go_at_call 38; refine (longF_to nm _ H1.out _).mono ?_; rintro e w' ⟨rfl, rfl⟩)
  refine bodyPost_ret (v := .tuple #[.agg #[.string ⟨#[]⟩, .int .i64 0, .int .i64 0, .string ⟨#[]⟩, .int .i64 0, .string ⟨#[]⟩, .int .i64 0, .bool false, .bool false], .int .i64 2]) (by simp [results, Tryz.results10, go_sem]) rfl ?_
  exact ⟨rfl, (by repeat (first | exact Bel.refl _ | refine Bel.drewN ?_ _ | refine Bel.drew ?_ | refine Bel.alloc ?_ _ | refine Bel.trans ?_ (by assumption) | refine Bel.setCell ?_ (by simp; omega) _))⟩
theorem checkFr_to (lb : ByteArray) (en wy : Int) (wt : ByteArray) (se : Int) (rs : ByteArray) (sg : Int) (fr st : Bool) (k : Int) (hk : M.checkF ⟨lb.data.toList, en, wy, wt.data.toList, ⟨se, rs.data.toList, sg, fr, st⟩⟩ = k) (w : World) :
    Calls Tryz.prog 37 #[.agg #[.string lb, .int .i64 en, .int .i64 wy, .string wt, .int .i64 se, .string rs, .int .i64 sg, .bool fr, .bool st]] w fun e w' => e = .returned (.int .i64 k) ∧ Bel w w' := by
  have hb : Bel w (w.alloc (.cells #[.string lb, .int .i64 en, .int .i64 wy, .string wt, .int .i64 se, .string rs, .int .i64 sg, .bool fr, .bool st] 25)) := (by repeat (first | exact Bel.refl _ | refine Bel.drewN ?_ _ | refine Bel.drew ?_ | refine Bel.alloc ?_ _ | refine Bel.trans ?_ (by assumption) | refine Bel.setCell ?_ (by simp; omega) _))
  have hB := Box.new w 25 [.string lb, .int .i64 en, .int .i64 wy, .string wt, .int .i64 se, .string rs, .int .i64 sg, .bool fr, .bool st]
  have c0 := hB.cell 0 _ rfl; have c1 := hB.cell 1 _ rfl; have c2 := hB.cell 2 _ rfl; have c3 := hB.cell 3 _ rfl; have c4 := hB.cell 4 _ rfl; have c5 := hB.cell 5 _ rfl; have c6 := hB.cell 6 _ rfl; have c7 := hB.cell 7 _ rfl; have c8 := hB.cell 8 _ rfl
  rw [M.checkF_wrong] at hk
  simp only [← Lib.size_eq] at hk
  by_cases hx : 3000 < lb.size
  · rw [if_pos (.inl hx)] at hk
    subst hk
    have H1 := Lib.hid (decide_eq_true hx)
    clear hx
    go_enter Tryz.func37, Tryz.ntmps37
    go_wp2_with fail
    refine (longF_to lb _ H1.out _).mono ?_
    rintro e _ ⟨rfl, rfl⟩
    go_wp2_with fail
    go_ret
    exact ⟨rfl, hb⟩
  · have H1 := Lib.hid (decide_eq_false hx)
    by_cases hy : 3000 < wt.size
    · rw [if_pos (.inr hy)] at hk
      subst hk
      have H2 := Lib.hid (decide_eq_true hy)
      clear hx hy
      go_enter Tryz.func37, Tryz.ntmps37
      go_wp2_with fail
      refine (longF_to lb _ H1.out _).mono ?_
      rintro e _ ⟨rfl, rfl⟩
      go_wp2_with fail
      refine (longF_to wt _ H2.out _).mono ?_
      rintro e _ ⟨rfl, rfl⟩
      go_wp2_with fail
      go_ret
      exact ⟨rfl, hb⟩
    · have H2 := Lib.hid (decide_eq_false hy)
      rw [if_neg (fun h => h.elim hx hy)] at hk
      have HK := Lib.hid hk
      have hl : lb.size ≤ 68719476735 := by omega
      have hC : Box ((w.alloc (.cells #[.string lb, .int .i64 en, .int .i64 wy, .string wt, .int .i64 se, .string rs, .int .i64 sg, .bool fr, .bool st] 25)).alloc (.cells #[.string lb, .int .i64 en, .int .i64 wy, .string wt, .int .i64 se, .string rs, .int .i64 sg, .bool fr, .bool st] 78)) (w.heap.size + 1) 78 [.string lb, .int .i64 en, .int .i64 wy, .string wt, .int .i64 se, .string rs, .int .i64 sg, .bool fr, .bool st] := by have := Box.new (w.alloc (.cells #[.string lb, .int .i64 en, .int .i64 wy, .string wt, .int .i64 se, .string rs, .int .i64 sg, .bool fr, .bool st] 25)) 78 [.string lb, .int .i64 en, .int .i64 wy, .string wt, .int .i64 se, .string rs, .int .i64 sg, .bool fr, .bool st]; simpa using this
      clear hx hy hk
      go_enter Tryz.func37, Tryz.ntmps37
      go_wp2_with fail
      refine (longF_to lb _ H1.out _).mono ?_
      rintro e _ ⟨rfl, rfl⟩
      go_wp2_with fail
      refine (longF_to wt _ H2.out _).mono ?_
      rintro e _ ⟨rfl, rfl⟩
      go_wp2_with fail
      refine (wrong_to (w.heap.size + 1) lb en wy wt se rs sg fr st _ HK.out hl _ hC).mono ?_
      rintro e w1 ⟨rfl, b1⟩
      go_wp2_with fail
      go_ret
      exact ⟨rfl, (hb.alloc _).trans b1⟩
/-- What comes to a right front, in one contract. -/
theorem feedM_to (g : Nat) (lb : ByteArray) (en wy : Int) (wt : ByteArray) (se : Int) (rs : ByteArray) (sg : Int) (fr st : Bool) (b : ByteArray) (last : Bool) (hb3 : b.size ≤ 3000) (hc : M.checkF ⟨lb.data.toList, en, wy, wt.data.toList, ⟨se, rs.data.toList, sg, fr, st⟩⟩ = 0) (xs : List Int) (F2 : M.Ft)
    (h : M.rawF ⟨lb.data.toList, en, wy, wt.data.toList, ⟨se, rs.data.toList, sg, fr, st⟩⟩ b.data.toList last = (xs, F2)) (w : World) (hL : Len w) (hB : Box w g 78 [.string lb, .int .i64 en, .int .i64 wy, .string wt, .int .i64 se, .string rs, .int .i64 sg, .bool fr, .bool st]) :
    Calls Tryz.prog 40 #[.pointer (some ⟨g, 0, none⟩), .string b, .bool last] w fun e w' => ∃ v, e = .returned v ∧ Own w.heap.size 3 w' v (xs.map (Value.int .i64)) ∧ Box w' g 78 (ftC F2) ∧ Below g w w' := by
  obtain ⟨hl, hcase⟩ := M.right_front _ hc
  simp only [← Lib.size_eq] at hl hcase
  rcases hcase with ⟨rfl, rfl, hz, hn, hwl⟩ | ⟨he, hy, hw0, hse, hk⟩
  · simp only [M.zst, M.St.mk.injEq] at hz
    obtain ⟨rfl, hrs, rfl, rfl, rfl⟩ := hz
    obtain rfl : rs = ⟨#[]⟩ := by
      apply ByteArray.ext
      simpa using hrs
    have hsw : wt.size ≤ 3000 := by omega
    have hcat : (wt ++ b).data.toList = wt.data.toList ++ b.data.toList := data_append _ _
    simp only [M.rawF, if_true] at h
    rw [← hcat] at h
    by_cases hq : last = false ∧ M.enough lb.data.toList (wt ++ b).data.toList = false
    · rw [if_pos hq] at h
      obtain ⟨rfl, hq2⟩ := hq
      simp only [Prod.mk.injEq] at h
      obtain ⟨rfl, rfl⟩ := h
      refine (feedA_wait g lb wt b hl hsw hb3 hq2 w hB).mono ?_
      rintro e w' ⟨rfl, h2, h3⟩
      refine ⟨_, rfl, Own.nil _ _ _, ?_, h3⟩
      simp only [ftC, str_back, hcat, str_app]
      exact h2
    · rw [if_neg hq] at h
      have hq2 : last = true ∨ M.enough lb.data.toList (wt ++ b).data.toList = true := by
        cases last with
        | true => exact .inl rfl
        | false =>
          refine .inr ?_
          cases hx : M.enough lb.data.toList (wt ++ b).data.toList with
          | true => rfl
          | false => exact absurd ⟨rfl, hx⟩ hq
      obtain ⟨n, y, k, hch⟩ : ∃ n y k, M.chosen lb.data.toList (wt ++ b).data.toList = (n, y, k) := ⟨_, _, _, rfl⟩
      obtain ⟨q1, q2, q3, q4, q5, q6⟩ := M.chosen_ok lb.data.toList (wt ++ b).data.toList
      rw [hch] at q1 q2 q3 q4 q5 q6 h
      simp only at q1 q2 q3 q4 q5 q6 h
      obtain ⟨kn, rfl⟩ : ∃ kn : Nat, k = (kn : Int) := ⟨k.toNat, by omega⟩
      rw [← Lib.size_eq] at q5
      have hkz : kn ≤ (wt ++ b).size := by omega
      rw [Int.toNat_natCast, ← drop_extF (wt ++ b) kn] at h
      obtain ⟨ys, d2, hraw⟩ : ∃ ys d2, M.rawM (M.opn n) ((wt ++ b).extract kn (wt ++ b).size).data.toList last = (ys, d2) := ⟨_, _, rfl⟩
      rw [hraw] at h
      simp only [Prod.mk.injEq] at h
      obtain ⟨rfl, rfl⟩ := h
      refine (feedB_ch g lb wt b last hl hsw hb3 hq2 n y kn hch hkz q1 _ d2 hraw w hL hB).mono ?_
      rintro e w' ⟨v, rfl, h1, h2, h3⟩
      refine ⟨_, rfl, h1, ?_, h3⟩
      simp only [ftC, str_back]
      exact h2
  · obtain rfl : wt = ⟨#[]⟩ := by
      apply ByteArray.ext
      simpa using hw0
    have hyn : wy ≠ 0 := by omega
    simp only [M.rawF] at h
    rw [if_neg hyn] at h
    obtain ⟨ys, d2, hraw⟩ : ∃ ys d2, M.rawM ⟨se, rs.data.toList, sg, fr, st⟩ b.data.toList last = (ys, d2) := ⟨_, _, rfl⟩
    rw [hraw] at h
    simp only [Prod.mk.injEq] at h
    obtain ⟨rfl, rfl⟩ := h
    refine (feedC_on g lb en wy se rs sg fr st b last hyn ((M.check_right _).1 hk) (by omega) _ d2 hraw w hB).mono ?_
    rintro e w' ⟨v, rfl, h1, h2, h3⟩
    refine ⟨_, rfl, h1, ?_, h3⟩
    simp only [ftC, str_back]
    exact h2
end Go.Proofs.YteingkjdemlhgaaGreatDoor

/-
  Package front: Feed.
-/
namespace Go.Proofs.YteingkjdemlhgaaGreatDoor
open Go.RowKit
set_option maxRecDepth 1000000
set_option maxHeartbeats 1000000
theorem feedF_to (lb : ByteArray) (en wy : Int) (wt : ByteArray) (se : Int) (rs : ByteArray) (sg : Int) (fr st : Bool) (b : ByteArray) (last : Bool) (xs : List Int) (F2 : M.Ft) (k : Int)
    (hf : M.feedFE ⟨lb.data.toList, en, wy, wt.data.toList, ⟨se, rs.data.toList, sg, fr, st⟩⟩ b.data.toList last = (xs, F2, k)) (w : World) (hL : Len w) :
    Calls Tryz.prog 13 #[.agg #[.string lb, .int .i64 en, .int .i64 wy, .string wt, .int .i64 se, .string rs, .int .i64 sg, .bool fr, .bool st], .string b, .bool last] w fun e w' => ∃ v, e = .returned (.tuple #[v, .agg (ftC F2).toArray, .int .i64 k]) ∧ Own w.heap.size 3 w' v (xs.map (Value.int .i64)) ∧ Bel w w' := by
  obtain ⟨q, hq⟩ : ∃ q, M.checkF ⟨lb.data.toList, en, wy, wt.data.toList, ⟨se, rs.data.toList, sg, fr, st⟩⟩ = q := ⟨_, rfl⟩
  have HQ := Lib.hid hq
  have hR0 : Box ((w.alloc (.cells #[.string lb, .int .i64 en, .int .i64 wy, .string wt, .int .i64 se, .string rs, .int .i64 sg, .bool fr, .bool st] 25)).alloc (.cells #[.string ⟨#[]⟩, .int .i64 0, .int .i64 0, .string ⟨#[]⟩, .int .i64 0, .string ⟨#[]⟩, .int .i64 0, .bool false, .bool false] 25)) (w.heap.size + 1) 25 [.string ⟨#[]⟩, .int .i64 0, .int .i64 0, .string ⟨#[]⟩, .int .i64 0, .string ⟨#[]⟩, .int .i64 0, .bool false, .bool false] := by have := Box.new (w.alloc (.cells #[.string lb, .int .i64 en, .int .i64 wy, .string wt, .int .i64 se, .string rs, .int .i64 sg, .bool fr, .bool st] 25)) 25 [.string ⟨#[]⟩, .int .i64 0, .int .i64 0, .string ⟨#[]⟩, .int .i64 0, .string ⟨#[]⟩, .int .i64 0, .bool false, .bool false]; simpa using this
  have hS0 : Box ((w.alloc (.cells #[.string lb, .int .i64 en, .int .i64 wy, .string wt, .int .i64 se, .string rs, .int .i64 sg, .bool fr, .bool st] 25)).alloc (.cells #[.string ⟨#[]⟩, .int .i64 0, .int .i64 0, .string ⟨#[]⟩, .int .i64 0, .string ⟨#[]⟩, .int .i64 0, .bool false, .bool false] 25)) w.heap.size 25 [.string lb, .int .i64 en, .int .i64 wy, .string wt, .int .i64 se, .string rs, .int .i64 sg, .bool fr, .bool st] := (Box.new w _ _).bel ((Bel.refl _).alloc _)
  have hb0 : Bel w ((w.alloc (.cells #[.string lb, .int .i64 en, .int .i64 wy, .string wt, .int .i64 se, .string rs, .int .i64 sg, .bool fr, .bool st] 25)).alloc (.cells #[.string ⟨#[]⟩, .int .i64 0, .int .i64 0, .string ⟨#[]⟩, .int .i64 0, .string ⟨#[]⟩, .int .i64 0, .bool false, .bool false] 25)) := (by repeat (first | exact Bel.refl _ | refine Bel.drewN ?_ _ | refine Bel.drew ?_ | refine Bel.alloc ?_ _ | refine Bel.trans ?_ (by assumption) | refine Bel.setCell ?_ (by simp; omega) _))
  have sc0 := hS0.cell 0 _ rfl; have sc1 := hS0.cell 1 _ rfl; have sc2 := hS0.cell 2 _ rfl; have sc3 := hS0.cell 3 _ rfl; have sc4 := hS0.cell 4 _ rfl; have sc5 := hS0.cell 5 _ rfl; have sc6 := hS0.cell 6 _ rfl; have sc7 := hS0.cell 7 _ rfl; have sc8 := hS0.cell 8 _ rfl
  by_cases h0 : q = 0
  · subst h0
    by_cases hb : 3000 < b.size
    · rw [M.feedFE, if_pos hq, if_pos (by rw [← Lib.size_eq]; exact hb)] at hf
      simp only [Prod.mk.injEq] at hf
      obtain ⟨rfl, rfl, rfl⟩ := hf
      have H1 := Lib.hid (decide_eq_true hb)
      clear hq hb
      go_enter Tryz.func13, Tryz.ntmps13
      go_wp2_with fail
      refine (checkFr_to lb en wy wt se rs sg fr st _ HQ.out _).mono ?_
      rintro e w1 ⟨rfl, b1⟩
      have hR1 := hR0.bel b1
      have hbw := hb0.trans b1
      go_wp2_with fail
      refine (longF_to b _ H1.out _).mono ?_
      rintro e _ ⟨rfl, rfl⟩
      have rc0 := hR1.cell 0 _ rfl; have rc1 := hR1.cell 1 _ rfl; have rc2 := hR1.cell 2 _ rfl; have rc3 := hR1.cell 3 _ rfl; have rc4 := hR1.cell 4 _ rfl; have rc5 := hR1.cell 5 _ rfl; have rc6 := hR1.cell 6 _ rfl; have rc7 := hR1.cell 7 _ rfl; have rc8 := hR1.cell 8 _ rfl
      have rf0 := hR1.frozen 0; have rf1 := hR1.frozen 1; have rf2 := hR1.frozen 2; have rf3 := hR1.frozen 3; have rf4 := hR1.frozen 4; have rf5 := hR1.frozen 5; have rf6 := hR1.frozen 6; have rf7 := hR1.frozen 7; have rf8 := hR1.frozen 8
      go_wp2_with fail
      have hF := ((((((((hR1.set 0 (.string ⟨#[]⟩)).set 1 (.int .i64 0)).set 2 (.int .i64 0)).set 3 (.string ⟨#[]⟩)).set 4 (.int .i64 0)).set 5 (.string ⟨#[]⟩)).set 6 (.int .i64 0)).set 7 (.bool false)).set 8 (.bool false)
      have uc0 := hF.cell 0 _ rfl; have uc1 := hF.cell 1 _ rfl; have uc2 := hF.cell 2 _ rfl; have uc3 := hF.cell 3 _ rfl; have uc4 := hF.cell 4 _ rfl; have uc5 := hF.cell 5 _ rfl; have uc6 := hF.cell 6 _ rfl; have uc7 := hF.cell 7 _ rfl; have uc8 := hF.cell 8 _ rfl
      refine bodyPost_ret (v := .tuple #[.slice none 0 0, .agg #[.string ⟨#[]⟩, .int .i64 0, .int .i64 0, .string ⟨#[]⟩, .int .i64 0, .string ⟨#[]⟩, .int .i64 0, .bool false, .bool false], .int .i64 2]) (by simp [results, Tryz.results13, go_sem, uc0, uc1, uc2, uc3, uc4, uc5, uc6, uc7, uc8]) rfl ?_
      exact ⟨_, rfl, Own.nil _ _ _, (((((((((hbw.setCell (p := ⟨w.heap.size + 1, 0, none⟩) (by simp) _).setCell (p := ⟨w.heap.size + 1, 1, none⟩) (by simp) _).setCell (p := ⟨w.heap.size + 1, 2, none⟩) (by simp) _).setCell (p := ⟨w.heap.size + 1, 3, none⟩) (by simp) _).setCell (p := ⟨w.heap.size + 1, 4, none⟩) (by simp) _).setCell (p := ⟨w.heap.size + 1, 5, none⟩) (by simp) _).setCell (p := ⟨w.heap.size + 1, 6, none⟩) (by simp) _).setCell (p := ⟨w.heap.size + 1, 7, none⟩) (by simp) _).setCell (p := ⟨w.heap.size + 1, 8, none⟩) (by simp) _)⟩
    · have hb3 : b.size ≤ 3000 := by omega
      obtain ⟨ys, F3, hraw⟩ : ∃ ys F3, M.rawF ⟨lb.data.toList, en, wy, wt.data.toList, ⟨se, rs.data.toList, sg, fr, st⟩⟩ b.data.toList last = (ys, F3) := ⟨_, _, rfl⟩
      rw [M.feedFE, if_pos hq, if_neg (by rw [← Lib.size_eq]; exact hb), M.feedF, hraw] at hf
      simp only [Prod.mk.injEq] at hf
      obtain ⟨rfl, rfl, rfl⟩ := hf
      have H1 := Lib.hid (decide_eq_false hb)
      have HW := Lib.hid hraw
      clear hq hb hraw
      go_enter Tryz.func13, Tryz.ntmps13
      go_wp2_with fail
      refine (checkFr_to lb en wy wt se rs sg fr st _ HQ.out _).mono ?_
      rintro e w1 ⟨rfl, b1⟩
      have hR1 := hR0.bel b1
      have hS1 := hS0.bel b1
      have hb1 := hb0.trans b1
      have sc0 := hS1.cell 0 _ rfl; have sc1 := hS1.cell 1 _ rfl; have sc2 := hS1.cell 2 _ rfl; have sc3 := hS1.cell 3 _ rfl; have sc4 := hS1.cell 4 _ rfl; have sc5 := hS1.cell 5 _ rfl; have sc6 := hS1.cell 6 _ rfl; have sc7 := hS1.cell 7 _ rfl; have sc8 := hS1.cell 8 _ rfl
      go_wp2_with fail
      refine (longF_to b _ H1.out _).mono ?_
      rintro e _ ⟨rfl, rfl⟩
      go_wp2_with fail
      have hC := Box.new w1 78 [.string lb, .int .i64 en, .int .i64 wy, .string wt, .int .i64 se, .string rs, .int .i64 sg, .bool fr, .bool st]
      refine (feedM_to w1.heap.size lb en wy wt se rs sg fr st b last hb3 HQ.out _ _ HW.out _ (hL.bel (hb1.alloc _)) hC).mono ?_
      rintro e w2 ⟨v2, rfl, o2, hC2, k2⟩
      have hb2 : Bel w1 w2 := Below.trans ((Bel.refl w1).alloc _) k2
      have hR2 := hR1.bel hb2
      have hS2 := hS1.bel hb2
      have hbw := hb1.trans hb2
      have hrB : w.heap.size + 1 < (w1.alloc (.cells #[.string lb, .int .i64 en, .int .i64 wy, .string wt, .int .i64 se, .string rs, .int .i64 sg, .bool fr, .bool st] 78)).heap.size := by have := hR1.lt; simp; omega
      have hwB : w.heap.size ≤ (w1.alloc (.cells #[.string lb, .int .i64 en, .int .i64 wy, .string wt, .int .i64 se, .string rs, .int .i64 sg, .bool fr, .bool st] 78)).heap.size := by have := hS1.lt; simp; omega
      have hgr : ¬ w1.heap.size = w.heap.size + 1 := by have := hR1.lt; omega
      have hrg : ¬ w.heap.size + 1 = w1.heap.size := by have := hR1.lt; omega
      obtain ⟨l3, en3, wy3, wt3, ⟨se3, rs3, sg3, fr3, st3⟩⟩ := F3
      rw [ftC] at hC2
      have rc0 := hR2.cell 0 _ rfl; have rc1 := hR2.cell 1 _ rfl; have rc2 := hR2.cell 2 _ rfl; have rc3 := hR2.cell 3 _ rfl; have rc4 := hR2.cell 4 _ rfl; have rc5 := hR2.cell 5 _ rfl; have rc6 := hR2.cell 6 _ rfl; have rc7 := hR2.cell 7 _ rfl; have rc8 := hR2.cell 8 _ rfl
      have rf0 := hR2.frozen 0; have rf1 := hR2.frozen 1; have rf2 := hR2.frozen 2; have rf3 := hR2.frozen 3; have rf4 := hR2.frozen 4; have rf5 := hR2.frozen 5; have rf6 := hR2.frozen 6; have rf7 := hR2.frozen 7; have rf8 := hR2.frozen 8
      have sc0 := hS2.cell 0 _ rfl; have sc1 := hS2.cell 1 _ rfl; have sc2 := hS2.cell 2 _ rfl; have sc3 := hS2.cell 3 _ rfl; have sc4 := hS2.cell 4 _ rfl; have sc5 := hS2.cell 5 _ rfl; have sc6 := hS2.cell 6 _ rfl; have sc7 := hS2.cell 7 _ rfl; have sc8 := hS2.cell 8 _ rfl
      have dc0 := hC2.cell 0 _ rfl; have dc1 := hC2.cell 1 _ rfl; have dc2 := hC2.cell 2 _ rfl; have dc3 := hC2.cell 3 _ rfl; have dc4 := hC2.cell 4 _ rfl; have dc5 := hC2.cell 5 _ rfl; have dc6 := hC2.cell 6 _ rfl; have dc7 := hC2.cell 7 _ rfl; have dc8 := hC2.cell 8 _ rfl
      clear hR0 hR1 hS0 hS1 hS2 hb0 hb1 b1 hC hC2 k2 hb2
      cases last with
      | true =>
        go_wp2_with fail
        go_region
        go_wp2_with fail
        have hF := Box.drew (((((((((hR2.set 0 (.string lb)).set 1 (.int .i64 0)).set 2 (.int .i64 0)).set 3 (.string ⟨#[]⟩)).set 4 (.int .i64 0)).set 5 (.string ⟨#[]⟩)).set 6 (.int .i64 0)).set 7 (.bool false)).set 8 (.bool false))
        have uc0 := hF.cell 0 _ rfl; have uc1 := hF.cell 1 _ rfl; have uc2 := hF.cell 2 _ rfl; have uc3 := hF.cell 3 _ rfl; have uc4 := hF.cell 4 _ rfl; have uc5 := hF.cell 5 _ rfl; have uc6 := hF.cell 6 _ rfl; have uc7 := hF.cell 7 _ rfl; have uc8 := hF.cell 8 _ rfl
        refine bodyPost_ret (v := .tuple #[v2, .agg #[.string lb, .int .i64 0, .int .i64 0, .string ⟨#[]⟩, .int .i64 0, .string ⟨#[]⟩, .int .i64 0, .bool false, .bool false], .int .i64 0]) (by simp [results, Tryz.results13, go_sem, uc0, uc1, uc2, uc3, uc4, uc5, uc6, uc7, uc8]) rfl ?_
        exact ⟨_, by simp [ftC, M.bgn, M.zst], (((((((((o2.setCell (p := ⟨w.heap.size + 1, 0, none⟩) hrB _).setCell (p := ⟨w.heap.size + 1, 1, none⟩) hrB _).setCell (p := ⟨w.heap.size + 1, 2, none⟩) hrB _).setCell (p := ⟨w.heap.size + 1, 3, none⟩) hrB _).setCell (p := ⟨w.heap.size + 1, 4, none⟩) hrB _).setCell (p := ⟨w.heap.size + 1, 5, none⟩) hrB _).setCell (p := ⟨w.heap.size + 1, 6, none⟩) hrB _).setCell (p := ⟨w.heap.size + 1, 7, none⟩) hrB _).setCell (p := ⟨w.heap.size + 1, 8, none⟩) hrB _).drew.mono hwB, (((((((((hbw.setCell (p := ⟨w.heap.size + 1, 0, none⟩) (by simp) _).setCell (p := ⟨w.heap.size + 1, 1, none⟩) (by simp) _).setCell (p := ⟨w.heap.size + 1, 2, none⟩) (by simp) _).setCell (p := ⟨w.heap.size + 1, 3, none⟩) (by simp) _).setCell (p := ⟨w.heap.size + 1, 4, none⟩) (by simp) _).setCell (p := ⟨w.heap.size + 1, 5, none⟩) (by simp) _).setCell (p := ⟨w.heap.size + 1, 6, none⟩) (by simp) _).setCell (p := ⟨w.heap.size + 1, 7, none⟩) (by simp) _).setCell (p := ⟨w.heap.size + 1, 8, none⟩) (by simp) _).drew⟩
      | false =>
        go_wp2_with fail
        go_region
        go_wp2_with fail
        have hF := Box.drew (((((((((hR2.set 0 (.string ⟨l3.toArray⟩)).set 1 (.int .i64 en3)).set 2 (.int .i64 wy3)).set 3 (.string ⟨wt3.toArray⟩)).set 4 (.int .i64 se3)).set 5 (.string ⟨rs3.toArray⟩)).set 6 (.int .i64 sg3)).set 7 (.bool fr3)).set 8 (.bool st3))
        have uc0 := hF.cell 0 _ rfl; have uc1 := hF.cell 1 _ rfl; have uc2 := hF.cell 2 _ rfl; have uc3 := hF.cell 3 _ rfl; have uc4 := hF.cell 4 _ rfl; have uc5 := hF.cell 5 _ rfl; have uc6 := hF.cell 6 _ rfl; have uc7 := hF.cell 7 _ rfl; have uc8 := hF.cell 8 _ rfl
        refine bodyPost_ret (v := .tuple #[v2, .agg #[.string ⟨l3.toArray⟩, .int .i64 en3, .int .i64 wy3, .string ⟨wt3.toArray⟩, .int .i64 se3, .string ⟨rs3.toArray⟩, .int .i64 sg3, .bool fr3, .bool st3], .int .i64 0]) (by simp [results, Tryz.results13, go_sem, uc0, uc1, uc2, uc3, uc4, uc5, uc6, uc7, uc8]) rfl ?_
        exact ⟨_, by simp [ftC], (((((((((o2.setCell (p := ⟨w.heap.size + 1, 0, none⟩) hrB _).setCell (p := ⟨w.heap.size + 1, 1, none⟩) hrB _).setCell (p := ⟨w.heap.size + 1, 2, none⟩) hrB _).setCell (p := ⟨w.heap.size + 1, 3, none⟩) hrB _).setCell (p := ⟨w.heap.size + 1, 4, none⟩) hrB _).setCell (p := ⟨w.heap.size + 1, 5, none⟩) hrB _).setCell (p := ⟨w.heap.size + 1, 6, none⟩) hrB _).setCell (p := ⟨w.heap.size + 1, 7, none⟩) hrB _).setCell (p := ⟨w.heap.size + 1, 8, none⟩) hrB _).drew.mono hwB, (((((((((hbw.setCell (p := ⟨w.heap.size + 1, 0, none⟩) (by simp) _).setCell (p := ⟨w.heap.size + 1, 1, none⟩) (by simp) _).setCell (p := ⟨w.heap.size + 1, 2, none⟩) (by simp) _).setCell (p := ⟨w.heap.size + 1, 3, none⟩) (by simp) _).setCell (p := ⟨w.heap.size + 1, 4, none⟩) (by simp) _).setCell (p := ⟨w.heap.size + 1, 5, none⟩) (by simp) _).setCell (p := ⟨w.heap.size + 1, 6, none⟩) (by simp) _).setCell (p := ⟨w.heap.size + 1, 7, none⟩) (by simp) _).setCell (p := ⟨w.heap.size + 1, 8, none⟩) (by simp) _).drew⟩
  · rw [M.feedFE, hq, if_neg h0] at hf
    simp only [Prod.mk.injEq] at hf
    obtain ⟨rfl, rfl, rfl⟩ := hf
    have g1 : (q == 0) = false := by simpa using h0
    have g2 : (q != 0) = true := by simpa using h0
    clear hq h0
    go_enter Tryz.func13, Tryz.ntmps13
    go_wp2_with fail
    refine (checkFr_to lb en wy wt se rs sg fr st _ HQ.out _).mono ?_
    rintro e w1 ⟨rfl, b1⟩
    have hR1 := hR0.bel b1
    have hbw := hb0.trans b1
    have rc0 := hR1.cell 0 _ rfl; have rc1 := hR1.cell 1 _ rfl; have rc2 := hR1.cell 2 _ rfl; have rc3 := hR1.cell 3 _ rfl; have rc4 := hR1.cell 4 _ rfl; have rc5 := hR1.cell 5 _ rfl; have rc6 := hR1.cell 6 _ rfl; have rc7 := hR1.cell 7 _ rfl; have rc8 := hR1.cell 8 _ rfl
    have rf0 := hR1.frozen 0; have rf1 := hR1.frozen 1; have rf2 := hR1.frozen 2; have rf3 := hR1.frozen 3; have rf4 := hR1.frozen 4; have rf5 := hR1.frozen 5; have rf6 := hR1.frozen 6; have rf7 := hR1.frozen 7; have rf8 := hR1.frozen 8
    go_wp2_with fail
    have hF := ((((((((hR1.set 0 (.string ⟨#[]⟩)).set 1 (.int .i64 0)).set 2 (.int .i64 0)).set 3 (.string ⟨#[]⟩)).set 4 (.int .i64 0)).set 5 (.string ⟨#[]⟩)).set 6 (.int .i64 0)).set 7 (.bool false)).set 8 (.bool false)
    have uc0 := hF.cell 0 _ rfl; have uc1 := hF.cell 1 _ rfl; have uc2 := hF.cell 2 _ rfl; have uc3 := hF.cell 3 _ rfl; have uc4 := hF.cell 4 _ rfl; have uc5 := hF.cell 5 _ rfl; have uc6 := hF.cell 6 _ rfl; have uc7 := hF.cell 7 _ rfl; have uc8 := hF.cell 8 _ rfl
    refine bodyPost_ret (v := .tuple #[.slice none 0 0, .agg #[.string ⟨#[]⟩, .int .i64 0, .int .i64 0, .string ⟨#[]⟩, .int .i64 0, .string ⟨#[]⟩, .int .i64 0, .bool false, .bool false], .int .i64 q]) (by simp [results, Tryz.results13, go_sem, uc0, uc1, uc2, uc3, uc4, uc5, uc6, uc7, uc8]) rfl ?_
    exact ⟨_, rfl, Own.nil _ _ _, (((((((((hbw.setCell (p := ⟨w.heap.size + 1, 0, none⟩) (by simp) _).setCell (p := ⟨w.heap.size + 1, 1, none⟩) (by simp) _).setCell (p := ⟨w.heap.size + 1, 2, none⟩) (by simp) _).setCell (p := ⟨w.heap.size + 1, 3, none⟩) (by simp) _).setCell (p := ⟨w.heap.size + 1, 4, none⟩) (by simp) _).setCell (p := ⟨w.heap.size + 1, 5, none⟩) (by simp) _).setCell (p := ⟨w.heap.size + 1, 6, none⟩) (by simp) _).setCell (p := ⟨w.heap.size + 1, 7, none⟩) (by simp) _).setCell (p := ⟨w.heap.size + 1, 8, none⟩) (by simp) _)⟩
end Go.Proofs.YteingkjdemlhgaaGreatDoor

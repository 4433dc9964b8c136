/-
  Package stream: end, rest, Check, Raw, Feed.
-/
import Derived.Test.YtbddfefcgfenfaaDoorStream2
import Derived.Test.YtbddfefcgfenfaaDoorPlainWait
namespace Go.Proofs.YtbddfefcgfenfaaDoor
open Go.RowKit
set_option maxRecDepth 1000000

theorem tell_any (g : Nat) (d : M.St) (h : M.isEnc d.enc = true) (b : ByteArray) (hsz : d.rest.length + b.size ≤ 68719476734) (w : World) (hB : Box w g 149 (stC d)) :
    Calls Tryd.prog 151 #[.pointer (some ⟨g, 0, none⟩), .string b] w fun e w' => ∃ v, e = .returned v ∧ Own w.heap.size 3 w' v ((M.tellM d b.data.toList).1.map (Value.int .i64)) ∧ Box w' g 149 (stC (M.tellM d b.data.toList).2) ∧ Below g w w' := by
  obtain ⟨n, r, sg, fr, st⟩ := d
  simp only at h hsz
  rcases M.enc_cases n h with rfl | h1 | h1 | rfl | rfl
  · obtain ⟨⟨xs, l⟩, ht⟩ : ∃ q, M.told8 (r ++ b.data.toList) = q := ⟨_, rfl⟩
    have e : M.tellM ⟨1, r, sg, fr, st⟩ b.data.toList = (xs, ⟨1, l, sg, fr, st⟩) := by rw [M.tellM, if_pos rfl]; simp only [ht]
    rw [e]
    exact tell8_any g r sg fr st b xs l ht hsz w hB
  · obtain ⟨⟨xs, l⟩, ht⟩ : ∃ q, M.told16 (n == 3) (r ++ b.data.toList) = q := ⟨_, rfl⟩
    have e : M.tellM ⟨n, r, sg, fr, st⟩ b.data.toList = (xs, ⟨n, l, sg, fr, st⟩) := by rw [M.tellM, if_neg (by simp only; omega), if_pos h1]; simp only [ht]
    rw [e]
    exact tell16_any g n (n == 3) (by rcases h1 with rfl | rfl <;> simp) r sg fr st b xs l ht hsz w hB
  · have e : M.tellM ⟨n, r, sg, fr, st⟩ b.data.toList = (M.allE n (r ++ b.data.toList), ⟨n, r, sg, fr, st⟩) := by
      rw [M.tellM, if_neg (by simp only; omega), if_neg (by simp only; omega), if_neg (by simp only; omega), if_neg (by simp only; omega)]
    rw [e]
    exact tellS_any g n h1 r sg fr st b _ rfl hsz w hB
  · obtain ⟨⟨xs, sg2, fr2, l⟩, ht⟩ : ∃ q, M.toldK false sg fr (r ++ b.data.toList) = q := ⟨_, rfl⟩
    have e : M.tellM ⟨6, r, sg, fr, st⟩ b.data.toList = (xs, ⟨6, l, sg2, fr2, st⟩) := by rw [M.tellM, if_neg (by simp only; omega), if_neg (by simp only; omega), if_pos rfl]; simp only [ht]
    rw [e]
    exact tellK6_any g r sg fr st b xs l sg2 fr2 ht hsz w hB
  · have e : M.tellM ⟨7, r, sg, fr, st⟩ b.data.toList = if st = true ∨ r ++ b.data.toList = [] then ([], ⟨7, r, sg, fr, st⟩) else ([65533], ⟨7, r, sg, fr, true⟩) := by
      rw [M.tellM, if_neg (by simp only; omega), if_neg (by simp only; omega), if_neg (by simp only; omega), if_pos rfl]
    rw [e]
    by_cases hs : st = true ∨ r ++ b.data.toList = []
    · rw [if_pos hs]
      exact tell7_any g r sg fr st b [] hs rfl hsz w hB
    · rw [if_neg hs]
      have h2 : st = false := by cases st; rfl; exact absurd (.inl rfl) hs
      exact tell7_one g r sg fr st b _ h2 (fun h3 => hs (.inr h3)) rfl hsz w hB
def Only (g : Nat) (a w : World) : Prop := ∀ k, k ≠ g → k < a.heap.size → w.heap[k]? = a.heap[k]?
theorem Only.of {g : Nat} {a w : World} (h : Bel a w) : Only g a w := fun k _ hk => h.block k hk
theorem Only.set {g : Nat} {a w : World} (h : Only g a w) (i : Nat) (u : Value) : Only g a (w.setCell ⟨g, i, none⟩ u) := fun k h1 h2 => (Below.heap_setCell w ⟨g, i, none⟩ u k h1).trans (h k h1 h2)
theorem Own.only {B g : Nat} {e : TypeId} {w w' : World} {v : Value} {xs : List Value} (h : Own B e w v xs) (ho : Only g w w') (hg : g < B) : Own B e w' v xs := by
  refine ⟨h.1, ?_⟩
  rcases h.2 with h2 | ⟨k, cap, cur, r0, r1, r2, r3⟩
  · exact .inl h2
  · exact .inr ⟨k, cap, cur, r0, r1, (ho k (by omega) (Array.getElem?_eq_some_iff.1 r2).1).trans r2, r3⟩
set_option maxHeartbeats 2000000 in
theorem end_any (g : Nat) (n : Int) (r : List UInt8) (sg : Int) (fr st : Bool) (xs : List Int) (hx : M.endM ⟨n, r, sg, fr, st⟩ = xs) (hsz : r.length ≤ 3) (w : World) (hB : Box w g 149 [.int .i64 n, .string ⟨r.toArray⟩, .int .i64 sg, .bool fr, .bool st]) :
    Calls Tryd.prog 152 #[.pointer (some ⟨g, 0, none⟩)] w fun e w' => ∃ v, e = .returned v ∧ Own w.heap.size 3 w' v (xs.map (Value.int .i64)) ∧ Box w' g 149 [.int .i64 n, .string ⟨#[]⟩, .int .i64 0, .bool false, .bool false] ∧ Below g w w' ∧ Only g w w' := by
  have hgl := hB.lt
  have HB := Lib.hid hB
  have c0 := hB.cell 0 _ rfl
  have c1 := hB.cell 1 _ rfl
  have c2 := hB.cell 2 _ rfl
  have c3 := hB.cell 3 _ rfl
  have c4 := hB.cell 4 _ rfl
  have z0 := hB.frozen 0
  have z1 := hB.frozen 1
  have z2 := hB.frozen 2
  have z3 := hB.frozen 3
  have z4 := hB.frozen 4
  by_cases h0 : r = []
  · subst h0
    rw [M.endM, if_pos rfl] at hx
    subst hx
    clear hB
    go_enter Tryd.func152, Tryd.ntmps152
    go_wp2_with fail
    go_ret
    exact ⟨_, rfl, ((((Own.setCell (Own.nil _ _ _) (p := ⟨g, 0, none⟩) hgl _).setCell (p := ⟨g, 1, none⟩) hgl _).setCell (p := ⟨g, 2, none⟩) hgl _).setCell (p := ⟨g, 3, none⟩) hgl _).setCell (p := ⟨g, 4, none⟩) hgl _, ((((HB.out.set 0 _).set 1 _).set 2 _).set 3 _).set 4 _, below_set (below_set (below_set (below_set (below_set (Below.refl _ _) _ _) _ _) _ _) _ _) _ _, (((((Only.of (Bel.refl _)).set 0 _).set 1 _).set 2 _).set 3 _).set 4 _⟩
  · have e1 : (!(⟨r.toArray⟩ : ByteArray).toList.isEmpty) = true := by rw [Lib.toList_data]; simpa using h0
    have e2 : (⟨r.toArray⟩ : ByteArray).toList.isEmpty = false := by rw [Lib.toList_data]; simpa using h0
    have e3 : (!r.isEmpty) = true := by simpa using h0
    have e4 : r.isEmpty = false := by simpa using h0
    by_cases h6 : n = 6
    · subst h6
      obtain ⟨⟨ys, sg2, fr2, l⟩, ht⟩ : ∃ q, M.toldK true sg fr r = q := ⟨_, rfl⟩
      have hxs : xs = ys := by rw [← hx, M.endM, if_neg h0, if_pos rfl]; simp only [ht]
      subst hxs
      have Ht := Lib.hid (show M.toldK true sg fr (⟨r.toArray⟩ : ByteArray).data.toList = (xs, sg2, fr2, l) from ht)
      have HS := Lib.hid (show (⟨r.toArray⟩ : ByteArray).size ≤ 68719476735 by rw [size_str]; omega)
      clear hB ht hx h0
      go_enter Tryd.func152, Tryd.ntmps152
      go_wp2_with fail
      go_region_held3 (fun w' => w'.cell? ⟨g, 1, none⟩ = some (.string ⟨r.toArray⟩) ∧ w'.cell? ⟨g, 2, none⟩ = some (.int .i64 sg) ∧ w'.cell? ⟨g, 3, none⟩ = some (.bool fr)) (go_keep) ((first | (go_at_call 155; refine (toldK_to _ _ _ _ _ _ _ _ Ht.out HS.out _).mono ?_; rintro e w' ⟨v, rfl, ho, hb1⟩; have hB1 := Box.bel (HB.out.bel (by repeat (first | exact Bel.refl _ | refine Bel.drewN ?_ _ | refine Bel.drew ?_ | refine Bel.alloc ?_ _ | refine Bel.trans ?_ (by assumption) | refine Bel.setCell ?_ (by simp; omega) _))) hb1; have d0 := hB1.cell 0 _ rfl; have d1 := hB1.cell 1 _ rfl; have d2 := hB1.cell 2 _ rfl; have d3 := hB1.cell 3 _ rfl; have d4 := hB1.cell 4 _ rfl; have y0 := hB1.frozen 0; have y1 := hB1.frozen 1; have y2 := hB1.frozen 2; have y3 := hB1.frozen 3; have y4 := hB1.frozen 4)))
      all_goals
        go_wp2_with fail
        go_ret
        exact ⟨_, rfl, ((((Own.setCell ho (p := ⟨g, 0, none⟩) hgl _).setCell (p := ⟨g, 1, none⟩) hgl _).setCell (p := ⟨g, 2, none⟩) hgl _).setCell (p := ⟨g, 3, none⟩) hgl _).setCell (p := ⟨g, 4, none⟩) hgl _, ((((hB1.set 0 _).set 1 _).set 2 _).set 3 _).set 4 _, below_set (below_set (below_set (below_set (below_set (Below.mono (Bel.trans ((Bel.refl w).drew) hb1) (Nat.le_of_lt hgl)) _ _) _ _) _ _) _ _) _ _, (((((Only.of (Bel.trans ((Bel.refl w).drew) hb1)).set 0 _).set 1 _).set 2 _).set 3 _).set 4 _⟩
    · have hxs : xs = [65533] := by rw [← hx, M.endM, if_neg h0, if_neg h6]
      subst hxs
      have e6 : (n == 6) = false := by simpa using h6
      clear hB hx h0 h6
      go_enter Tryd.func152, Tryd.ntmps152
      go_wp2_with fail
      go_ret
      have hO := Own.made (B := w.heap.size) (e := 3) (((((w.setCell ⟨g, 0, none⟩ (.int .i64 n)).setCell ⟨g, 1, none⟩ (.string ⟨#[]⟩)).setCell ⟨g, 2, none⟩ (.int .i64 0)).setCell ⟨g, 3, none⟩ (.bool false)).setCell ⟨g, 4, none⟩ (.bool false)) [.int .i64 65533] (by simp) (by simp [maxLen])
      simp only [World.size_setCell, List.length_singleton] at hO
      exact ⟨_, rfl, hO, (((((HB.out.set 0 _).set 1 _).set 2 _).set 3 _).set 4 _).bel ((Bel.refl _).alloc _), Below.alloc (below_set (below_set (below_set (below_set (below_set (Below.refl _ _) _ _) _ _) _ _) _ _) _ _) (by simp; omega) _, fun k h1 h2 => (((Bel.refl _).alloc _).block k (by simpa using h2)).trans ((((((Only.of (Bel.refl w)).set 0 _).set 1 _).set 2 _).set 3 _).set 4 _ k h1 h2)⟩
theorem tell_to (g : Nat) (n : Int) (q : List Int × M.St) (b : ByteArray) (ht : M.tellM (M.opn n) b.data.toList = q) (h : M.isEnc n = true) (hsz : b.size ≤ 68719476734) (w : World) (hB : Box w g 149 [.int .i64 n, .string ⟨#[]⟩, .int .i64 0, .bool false, .bool false]) :
    Calls Tryd.prog 151 #[.pointer (some ⟨g, 0, none⟩), .string b] w fun e w' => ∃ v, e = .returned v ∧ Own w.heap.size 3 w' v (q.1.map (Value.int .i64)) ∧ Box w' g 149 (stC q.2) ∧ Below g w w' := by
  have := tell_any g (M.opn n) h b (by simpa [M.opn] using hsz) w hB
  rw [ht] at this
  exact this
theorem rest_any (n : Int) (h : M.isEnc n = true) (s : ByteArray) (hs : s.size ≤ 3) (w : World) : Calls Tryd.prog 118 #[.int .i64 n, .string s] w fun e w' => e = .returned (.bool (M.restOk n s.data.toList)) ∧ Bel w w' := by
  by_cases h0 : s.data.toList = []
  · have HF := Lib.hid (show M.restOk n s.data.toList = true by rw [M.restOk, decide_eq_true_eq]; exact .inl h0)
    have e2 : s.toList.isEmpty = true := by rw [Lib.toList_data, h0]; rfl
    clear h0
    go_enter Tryd.func118, Tryd.ntmps118
    go_wp2_with fail
    go_ret
    rw [HF.out]
    exact ⟨rfl, Bel.refl _⟩
  · have e2 : s.toList.isEmpty = false := by rw [Lib.toList_data]; simpa using h0
    obtain ⟨⟨xs, d2⟩, ht⟩ : ∃ q, M.tellM (M.opn n) s.data.toList = q := ⟨_, rfl⟩
    have HT := Lib.hid ht
    have HI := Lib.hid h
    have hro : M.restOk n s.data.toList = decide (xs = [] ∧ d2.rest = s.data.toList) := by
      rw [M.restOk, ht]; simp [h0]
    by_cases hx : xs = []
    · by_cases hr : d2.rest = s.data.toList
      · have HF := Lib.hid (show M.restOk n s.data.toList = true by rw [hro, decide_eq_true_eq]; exact ⟨hx, hr⟩)
        have e3 : ((⟨d2.rest.toArray⟩ : ByteArray).toList == s.toList) = true := by rw [Lib.toList_data, Lib.toList_data, beq_iff_eq]; exact hr
        have e4 : (d2.rest == s.toList) = true := by rw [Lib.toList_data, beq_iff_eq]; exact hr
        subst hx
        clear h0 ht hro hr h
        go_enter Tryd.func118, Tryd.ntmps118
        go_wp2_with (first | (go_at_call 151; refine (tell_to w.heap.size n _ s HT.out HI.out (by omega) _ (Box.new w _ _)).mono ?_; rintro e w' ⟨v, rfl, ho, hB1, hb1⟩; obtain ⟨A, c, hv, hlc, hcm, _⟩ := ho.form; rw [List.length_map] at hv hlc; subst hv; unfold maxLen at hcm; have d1 := hB1.cell 1 _ rfl))
        go_ret
        rw [HF.out]
        exact ⟨rfl, Bel.upto ((Bel.refl w).alloc _) hb1 (Nat.le_refl _)⟩
      · have HF := Lib.hid (show M.restOk n s.data.toList = false by rw [hro, decide_eq_false_iff_not]; exact fun h => hr h.2)
        have e3 : ((⟨d2.rest.toArray⟩ : ByteArray).toList == s.toList) = false := by rw [Lib.toList_data, Lib.toList_data, beq_eq_false_iff_ne]; exact hr
        have e4 : (d2.rest == s.toList) = false := by rw [Lib.toList_data, beq_eq_false_iff_ne]; exact hr
        subst hx
        clear h0 ht hro hr h
        go_enter Tryd.func118, Tryd.ntmps118
        go_wp2_with (first | (go_at_call 151; refine (tell_to w.heap.size n _ s HT.out HI.out (by omega) _ (Box.new w _ _)).mono ?_; rintro e w' ⟨v, rfl, ho, hB1, hb1⟩; obtain ⟨A, c, hv, hlc, hcm, _⟩ := ho.form; rw [List.length_map] at hv hlc; subst hv; unfold maxLen at hcm; have d1 := hB1.cell 1 _ rfl))
        go_ret
        rw [HF.out]
        exact ⟨rfl, Bel.upto ((Bel.refl w).alloc _) hb1 (Nat.le_refl _)⟩
    · have HF := Lib.hid (show M.restOk n s.data.toList = false by rw [hro, decide_eq_false_iff_not]; exact fun h => hx h.1)
      have e3 : ((xs.length : Int) == 0) = false := by rw [beq_eq_false_iff_ne]; intro h; apply hx; exact List.eq_nil_of_length_eq_zero (by omega)
      clear h0 ht hro hx h
      go_enter Tryd.func118, Tryd.ntmps118
      go_wp2_with (first | (go_at_call 151; refine (tell_to w.heap.size n _ s HT.out HI.out (by omega) _ (Box.new w _ _)).mono ?_; rintro e w' ⟨v, rfl, ho, hB1, hb1⟩; obtain ⟨A, c, hv, hlc, hcm, _⟩ := ho.form; rw [List.length_map] at hv hlc; subst hv; unfold maxLen at hcm; have d1 := hB1.cell 1 _ rfl))
      go_ret
      rw [HF.out]
      exact ⟨rfl, Bel.upto ((Bel.refl w).alloc _) hb1 (Nat.le_refl _)⟩
end Go.Proofs.YtbddfefcgfenfaaDoor

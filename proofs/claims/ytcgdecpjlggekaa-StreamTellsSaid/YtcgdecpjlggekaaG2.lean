/-
  Texts of the proof, laid together: Single, PlainKana, Kana, Kana2, Kana3, PlainUtf8b, PlainUtf8c, PlainUtf8d, PlainUtf8e. No condition of its own.
-/
import Derived.Test.YtcgdecpjlggekaaG1
import Derived.Maps.OwnSet
import Derived.RegionTactic
import Derived.BigRegion

/-
  Package single: what table, All, Decode, Tells, Raw, Encode compute.
-/
namespace Go.Proofs.Ytcgdecpjlggekaa
open Go.RowKit

theorem high_any (w : World) : Calls Try.prog 41 #[] w fun e w' => e = .returned (.slice (some ⟨w.heap.size, 0, none⟩) 32 32) ∧ (∀ j, j < 32 → w'.cell? ⟨w.heap.size, j, none⟩ = some (.int .i64 (M.high[j]?.getD 0))) ∧ Bel w w' := by
  go_enter Try.func41, Try.ntmps41
  go_wp2
  go_ret
  refine ⟨rfl, fun j hj => ?_, (by repeat (first | exact Bel.refl _ | refine Bel.drewN ?_ _ | refine Bel.drew ?_ | refine Bel.alloc ?_ _ | refine Bel.trans ?_ (by assumption) | refine Bel.setCell ?_ (by simp; omega) _))⟩
  rw [World.cell?_alloc_new]
  have h2 : j < M.high.length := hj
  show (M.high.map (Value.int .i64)).toArray[j]? = _
  rw [List.getElem?_toArray, List.getElem?_map, List.getElem?_eq_getElem h2]
  rfl
theorem table_len (user : Bool) : (M.tableOf user).length = 256 := by simp [M.tableOf]
theorem table_at (user : Bool) (k : Nat) (hk : k < 256) : (M.tableOf user)[k]? = some (M.pointOf user k) := by simp [M.tableOf, hk]
set_option maxRecDepth 100000 in
theorem table_any (user : Bool) (w : World) : Calls Try.prog 39 #[.bool user] w fun e w' => ∃ v, e = .returned v ∧ Own w.heap.size 3 w' v ((M.tableOf user).map (Value.int .i64)) ∧ Bel w w' := by
  go_enter Try.func39, Try.ntmps39
  go_wp2_with fail
  go_loopw [3, 5] (fun v i wr => ∃ k : Nat, k ≤ 256 ∧ i = .int .i64 k ∧ Own w.heap.size 3 wr v (((M.tableOf user).take k).map (Value.int .i64)) ∧ Bel w wr) (fun _ i _ => 256 - (intOf i).toNat)
  case atStart => exact ⟨0, by omega, rfl, Own.nil _ _ _, Bel.refl _⟩
  case round =>
    obtain ⟨k, hk, rfl, hown, hb⟩ := hrel
    by_cases hlt : k < 256
    · have HT := Lib.hid (take_snoc (Value.int .i64) _ _ _ (table_at user k hlt))
      by_cases h1 : k < 128
      · have HP := Lib.hid (show M.pointOf user k = (k : Int) by rw [M.pointOf, if_pos h1])
        go_wp2_with (first | (at_builtin; refine wpList_app rfl (.tmp 8) (.tmp 10) 24 rfl elemInt (by decide) w.heap.size _ _ _ rfl rfl hown rfl (by simp; omega) (by first | exact Nat.le_refl _ | assumption | (have := hb.size; omega)) ?_; intro v' w1 hown' hb1))
        go_roundw
        case rel => exact ⟨k + 1, by omega, by go_num, by rw [HT.out, HP.out]; exact hown', hb.upto hb1 (Nat.le_refl _)⟩
        case measure => simp [intOf]; omega
      · cases user
        · by_cases h2 : k < 160
          · have HP := Lib.hid (show M.pointOf false k = M.high[k - 128]?.getD 0 by rw [M.pointOf, if_neg h1, if_neg (by simp), if_pos h2])
            go_wp2_with (first | (go_at_call 41; refine (high_any _).mono ?_; rintro e w' ⟨rfl, hc, hb2⟩; have hc' := hc (k - 128) (by omega); have hown2 := hown.bel hb2; have hb3 := hb.trans hb2) | (at_builtin; refine wpList_app rfl (.tmp 31) (.tmp 37) 24 rfl elemInt (by decide) w.heap.size _ _ _ rfl rfl hown2 rfl (by simp; omega) (by have := hb3.size; omega) ?_; intro v' w1 hown' hb1))
            go_roundw
            case rel => exact ⟨k + 1, by omega, by go_num, by rw [HT.out, HP.out]; exact hown', hb3.upto hb1 (Nat.le_refl _)⟩
            case measure => simp [intOf]; omega
          · have HP := Lib.hid (show M.pointOf false k = (k : Int) by rw [M.pointOf, if_neg h1, if_neg (by simp), if_neg h2])
            go_wp2_with (first | (at_builtin; refine wpList_app rfl (.tmp 8) (.tmp 10) 24 rfl elemInt (by decide) w.heap.size _ _ _ rfl rfl hown rfl (by simp; omega) (by first | exact Nat.le_refl _ | assumption | (have := hb.size; omega)) ?_; intro v' w1 hown' hb1))
            go_roundw
            case rel => exact ⟨k + 1, by omega, by go_num, by rw [HT.out, HP.out]; exact hown', hb.upto hb1 (Nat.le_refl _)⟩
            case measure => simp [intOf]; omega
        · have HP := Lib.hid (show M.pointOf true k = 63232 + (k : Int) by rw [M.pointOf, if_neg h1, if_pos rfl])
          have e1 : (63360 : Int) + (k : Int) - 128 = 63232 + (k : Int) := by omega
          have E1 := Lib.hid e1
          clear e1
          go_wp2_with (first | (at_builtin; refine wpList_app rfl (.tmp 18) (.tmp 22) 24 rfl elemInt (by decide) w.heap.size _ _ _ rfl rfl hown rfl (by simp; omega) (by first | exact Nat.le_refl _ | assumption | (have := hb.size; omega)) ?_; intro v' w1 hown' hb1))
          go_roundw
          case rel => exact ⟨k + 1, by omega, by go_num, by rw [HT.out, HP.out, ← E1.out]; exact hown', hb.upto hb1 (Nat.le_refl _)⟩
          case measure => simp [intOf]; omega
    · obtain rfl : k = 256 := by omega
      have HT := Lib.hid (show (M.tableOf user).take 256 = M.tableOf user by rw [List.take_of_length_le (by rw [table_len]; exact Nat.le_refl _)])
      go_wp2_with fail
      go_ret
      exact ⟨_, rfl, by rw [← HT.out]; exact hown, hb⟩
theorem table_row (user : Bool) (w : World) : Calls Try.prog 39 #[.bool user] w fun e w' => ∃ g c, e = .returned (.slice (some ⟨g, 0, none⟩) 256 c) ∧ 256 ≤ c ∧ c ≤ 9223372036854775807 ∧ w.heap.size ≤ g ∧ g < w'.heap.size ∧ (∀ k, k < 256 → w'.cell? ⟨g, k, none⟩ = some (.int .i64 (M.pointOf user k))) ∧ IntSl w' (.slice (some ⟨g, 0, none⟩) 256 c) (M.tableOf user) ∧ Bel w w' := by
  refine (table_any user w).mono ?_
  rintro e w' ⟨v, rfl, hown, hb⟩
  have hi := hown.ints
  obtain ⟨A, c, hv, h1, h2, h3, h4⟩ := hown.form
  rw [List.length_map, table_len] at hv h1
  cases A with
  | none =>
    have h5 := congrArg List.length (h3 rfl)
    rw [List.length_map, table_len] at h5
    cases h5
  | some x =>
    obtain ⟨g, o, p⟩ := x
    obtain ⟨rfl, rfl, h5, h6, _, h7⟩ := h4 g o p rfl
    subst hv
    refine ⟨g, c, rfl, h1, h2, h5, h6, fun k hk => h7 k _ (by rw [List.getElem?_map, table_at user k hk]; rfl), hi, hb⟩
set_option maxRecDepth 100000 in
theorem all_any (user : Bool) (s : ByteArray) (w : World) (hs : s.size ≤ 68719476735) : Calls Try.prog 30 #[.bool user, .string s] w fun e w' => ∃ v, e = .returned v ∧ Own w.heap.size 3 w' v ((M.decodeS user s.data.toList).map (Value.int .i64)) ∧ Bel w w' := by
  have HS := Lib.hid (Lib.size_eq s)
  go_enter Try.func30, Try.ntmps30
  go_wp2_with (first | (go_at_call 39; refine (table_row _ _).mono ?_; rintro e w' ⟨g, c, rfl, hc1, hc2, hg0, hg, hcell, _, hb⟩) | ((with_reducible show wpList _ _ _ _ _ _); refine wpList_toBytes rfl (.tmp 11) _ _ 5 rfl Try.underlying9 Try.underlying65 Try.underlying5 s rfl (by omega) ?_; intro cb w2 hb2 hg2 hcb1 hcb2 hcellb _))
  have hgl : g < w2.heap.size := hb2.lt hg
  go_loopw [6, 14] (fun v i wr => ∃ k : Nat, k ≤ s.size ∧ i = .int .i64 k ∧ Own w2.heap.size 3 wr v (((M.decodeS user s.data.toList).take k).map (Value.int .i64)) ∧ Below w2.heap.size w2 wr) (fun _ i _ => s.size - (intOf i).toNat)
  case atStart => exact ⟨0, by omega, rfl, Own.nil _ _ _, Below.refl _ _⟩
  case round =>
    obtain ⟨k, hk, rfl, hown, hb⟩ := hrel
    by_cases hlt : k < s.size
    · obtain ⟨c, hc⟩ : ∃ c, s.data.toList[k]? = some c := ⟨_, List.getElem?_eq_getElem (by rw [← Lib.size_eq]; exact hlt)⟩
      have hcl : c.toNat < 256 := c.toNat_lt
      have h1 : wr.cell? ⟨w'.heap.size, k, none⟩ = some (.int .u8 (c.toNat : Int)) := (hb.cell (p := ⟨_, k, none⟩) hg2).trans (hcellb k c hc)
      have h2 : wr.cell? ⟨g, c.toNat, none⟩ = some (.int .i64 (M.pointOf user c.toNat)) := (hb.cell (p := ⟨g, _, none⟩) hgl).trans ((hb2.cell (p := ⟨g, _, none⟩) hg).trans (hcell _ hcl))
      have HT := Lib.hid (take_snoc (Value.int .i64) (M.decodeS user s.data.toList) k (M.pointOf user c.toNat) (by rw [M.decodeS, List.getElem?_map, hc]; rfl))
      have hlen : ((M.decodeS user s.data.toList).take k).length ≤ k := List.length_take_le _ _
      clear hcellb hcell hc
      go_wp2_with (first | (at_builtin; refine wpList_app rfl (.tmp 18) (.tmp 23) 24 rfl elemInt (by decide) w2.heap.size _ _ _ rfl rfl hown rfl (by simp; omega) (by first | exact Nat.le_refl _ | assumption | (have := hb.size; omega)) ?_; intro v' w1 hown' hb1))
      go_roundw
      case rel => exact ⟨k + 1, by omega, by go_num, by rw [HT.out]; exact hown', hb.trans hb1⟩
      case measure => simp [intOf]; omega
    · obtain rfl : k = s.size := by omega
      have HT := Lib.hid (show (M.decodeS user s.data.toList).take s.size = M.decodeS user s.data.toList by rw [List.take_of_length_le (by rw [M.decodeS, List.length_map, ← Lib.size_eq]; exact Nat.le_refl _)])
      go_wp2_with fail
      go_ret
      exact ⟨_, rfl, by rw [← HT.out]; exact hown.mono (Nat.le_trans (by assumption : Bel w w').size hb2.size), Bel.upto (Bel.trans (by assumption : Bel w w') hb2) hb (Nat.le_trans (by assumption : Bel w w').size hb2.size)⟩
end Go.Proofs.Ytcgdecpjlggekaa

/-
  Signs that are shifted, in plain functions and laws.
-/
namespace Go.Proofs.Ytcgdecpjlggekaa.M
open Go

def signK (g : Int) (c : Nat) : Int :=
  if g = 2 ∧ 33 ≤ c ∧ c ≤ 95 then 65344 + (c : Int) else if g = 2 ∨ 128 ≤ c ∨ c = 14 ∨ c = 15 ∨ c = 27 then 65533 else if g = 1 ∧ c = 92 then 165 else if g = 1 ∧ c = 126 then 8254 else (c : Int)
def escK (x : UInt8) : Option Int := if x = 66 then some 0 else if x = 74 then some 1 else if x = 73 then some 2 else none
def headK : Bs → Option Int
  | d :: x :: _ => if d = 40 then escK x else none
  | _ => none
def waitK (t : Bs) : Bool := decide (t = [] ∨ t = [40])
def toldK (last : Bool) (g : Int) (f : Bool) : Bs → List Int × Int × Bool × Bs
  | [] => ([], g, f, [])
  | [c] => if c = 27 then (if last = true then ([65533], g, false, []) else ([], g, f, [c])) else ([signK g c.toNat], g, false, [])
  | [c, d] => if c = 27 then (if d = 40 ∧ last = false then ([], g, f, [c, d]) else (65533 :: (toldK last g false [d]).1, (toldK last g false [d]).2)) else (signK g c.toNat :: (toldK last g false [d]).1, (toldK last g false [d]).2)
  | c :: d :: x :: u => if c = 27 then
      (match (if d = 40 then escK x else none) with
        | some k => ((if f = true then [65533] else []) ++ (toldK last k true u).1, (toldK last k true u).2)
        | none => (65533 :: (toldK last g false (d :: x :: u)).1, (toldK last g false (d :: x :: u)).2))
      else (signK g c.toNat :: (toldK last g false (d :: x :: u)).1, (toldK last g false (d :: x :: u)).2)
def allK (s : Bs) : List Int := (toldK true 0 false s).1
def decK (s : Bs) : List Int × Int := if 3000 < s.length then ([], 2) else (allK s, 0)

theorem toldK_nil (last : Bool) (g : Int) (f : Bool) : toldK last g f [] = ([], g, f, []) := by rw [toldK]
theorem toldK_sign (last : Bool) (g : Int) (f : Bool) (c : UInt8) (t : Bs) (h : c ≠ 27) : toldK last g f (c :: t) = (signK g c.toNat :: (toldK last g false t).1, (toldK last g false t).2) := by
  match t with
  | [] => rw [toldK_nil, toldK, if_neg h]
  | [d] => conv => lhs; rw [toldK, if_neg h]
  | d :: x :: u => conv => lhs; rw [toldK, if_neg h]
theorem toldK_esc (last : Bool) (g k : Int) (f : Bool) (t : Bs) (h : headK t = some k) : toldK last g f (27 :: t) = ((if f = true then [65533] else []) ++ (toldK last k true (t.drop 2)).1, (toldK last k true (t.drop 2)).2) := by
  match t, h with
  | [], h => cases h
  | [d], h => cases h
  | d :: x :: u, h =>
    rw [headK] at h
    rw [toldK, if_pos rfl, h]
    rfl
theorem toldK_wait (g : Int) (f : Bool) (t : Bs) (h : waitK t = true) : toldK false g f (27 :: t) = ([], g, f, 27 :: t) := by
  simp only [waitK, decide_eq_true_eq] at h
  rcases h with rfl | rfl
  · rw [toldK, if_pos rfl]; simp
  · rw [toldK, if_pos rfl]; simp
theorem toldK_bad (last : Bool) (g : Int) (f : Bool) (t : Bs) (h : headK t = none) (h2 : waitK t = false ∨ last = true) : toldK last g f (27 :: t) = (65533 :: (toldK last g false t).1, (toldK last g false t).2) := by
  simp only [waitK, decide_eq_false_iff_not] at h2
  match t, h, h2 with
  | [], h, h2 =>
    have : last = true := by simpa using h2
    subst this
    rw [toldK_nil, toldK, if_pos rfl]; simp
  | [d], h, h2 =>
    conv => lhs; rw [toldK, if_pos rfl]
    rw [if_neg]
    rintro ⟨rfl, rfl⟩
    simp at h2
  | d :: x :: u, h, _ =>
    rw [headK] at h
    conv => lhs; rw [toldK, if_pos rfl, h]
theorem headK_wait (t : Bs) (h : waitK t = true) : headK t = none := by
  simp only [waitK, decide_eq_true_eq] at h
  rcases h with rfl | rfl <;> rfl
/-- The four ways. -/
theorem sayK (last : Bool) (g : Int) (f : Bool) (c : UInt8) (t : Bs) :
    (c ≠ 27 ∧ toldK last g f (c :: t) = (signK g c.toNat :: (toldK last g false t).1, (toldK last g false t).2)) ∨
    (c = 27 ∧ ∃ k x u, t = 40 :: x :: u ∧ escK x = some k ∧ headK t = some k ∧ toldK last g f (c :: t) = ((if f = true then [65533] else []) ++ (toldK last k true u).1, (toldK last k true u).2)) ∨
    (c = 27 ∧ waitK t = true ∧ headK t = none ∧ last = false ∧ toldK last g f (c :: t) = ([], g, f, c :: t)) ∨
    (c = 27 ∧ headK t = none ∧ (waitK t = false ∨ last = true) ∧ toldK last g f (c :: t) = (65533 :: (toldK last g false t).1, (toldK last g false t).2)) := by
  by_cases hc : c = 27
  · subst hc
    cases h : headK t with
    | some k =>
      have he := toldK_esc last g k f t h
      match t, h with
      | [], h => cases h
      | [d], h => cases h
      | d :: x :: u, h =>
        have h0 := h
        rw [headK] at h
        split at h
        · rename_i hd
          subst hd
          exact .inr (.inl ⟨rfl, k, x, u, rfl, h, rfl, he⟩)
        · cases h
    | none =>
      by_cases hw : waitK t = true ∧ last = false
      · obtain ⟨hw, rfl⟩ := hw
        exact .inr (.inr (.inl ⟨rfl, hw, rfl, rfl, toldK_wait g f t hw⟩))
      · have h2 : waitK t = false ∨ last = true := by
          cases hq : waitK t <;> cases last <;> simp_all
        exact .inr (.inr (.inr ⟨rfl, rfl, h2, toldK_bad last g f t h h2⟩))
  · exact .inl ⟨hc, toldK_sign last g f c t hc⟩
/-- What is left. -/
theorem toldK_rest (last : Bool) : ∀ (k : Nat) (s : Bs) (g : Int) (f : Bool), s.length ≤ k → (toldK last g f s).1.length + (toldK last g f s).2.2.2.length ≤ s.length ∧ ((toldK last g f s).2.2.2 = [] ∨ last = false ∧ ∃ t, waitK t = true ∧ (toldK last g f s).2.2.2 = 27 :: t)
  | _, [], g, f, _ => by simp [toldK_nil]
  | 0, _ :: _, _, _, h => by simp at h
  | k + 1, c :: t, g, f, h => by
    simp only [List.length_cons] at h
    rcases sayK last g f c t with ⟨_, e⟩ | ⟨rfl, q, x, u, rfl, _, _, e⟩ | ⟨rfl, h1, _, h2, e⟩ | ⟨rfl, _, _, e⟩
    · obtain ⟨i1, i2⟩ := toldK_rest last k t g false (by omega)
      rw [e]; exact ⟨by simp only [List.length_cons]; omega, i2⟩
    · simp only [List.length_cons] at h
      obtain ⟨i1, i2⟩ := toldK_rest last k u q true (by omega)
      rw [e]
      refine ⟨?_, i2⟩
      rw [List.length_append]
      have : (if f = true then [(65533 : Int)] else []).length ≤ 1 := by split <;> simp
      simp only [List.length_cons]; omega
    · rw [e]; exact ⟨by simp, .inr ⟨h2, t, h1, rfl⟩⟩
    · obtain ⟨i1, i2⟩ := toldK_rest last k t g false (by omega)
      rw [e]; exact ⟨by simp only [List.length_cons]; omega, i2⟩
theorem headK_app (t b : Bs) (h : waitK t = false) : headK (t ++ b) = headK t ∧ waitK (t ++ b) = false := by
  simp only [waitK, decide_eq_false_iff_not] at h ⊢
  match t, h with
  | [], h => simp at h
  | [d], h =>
    have hd : d ≠ 40 := by simpa using h
    constructor
    · cases b with
      | nil => rfl
      | cons x y => show (if d = 40 then escK x else none) = none; rw [if_neg hd]
    · simp [hd]
  | d :: x :: u, h => exact ⟨rfl, by simp⟩
/-- Two parts: the second one goes on where the first one stopped. -/
theorem toldK_app (last : Bool) : ∀ (k : Nat) (a b : Bs) (g : Int) (f : Bool), a.length ≤ k → toldK last g f (a ++ b) = ((toldK false g f a).1 ++ (toldK last (toldK false g f a).2.1 (toldK false g f a).2.2.1 ((toldK false g f a).2.2.2 ++ b)).1, (toldK last (toldK false g f a).2.1 (toldK false g f a).2.2.1 ((toldK false g f a).2.2.2 ++ b)).2)
  | _, [], b, g, f, _ => by simp [toldK_nil]
  | 0, _ :: _, _, _, _, h => by simp at h
  | k + 1, c :: t, b, g, f, h => by
    simp only [List.length_cons] at h
    rw [List.cons_append]
    rcases sayK false g f c t with ⟨h0, e⟩ | ⟨rfl, q, x, u, rfl, h1, _, e⟩ | ⟨rfl, h1, _, h2, e⟩ | ⟨rfl, h1, h2, e⟩
    · rw [toldK_sign last g f c _ h0, toldK_app last k t b g false (by omega), e]
      rfl
    · simp only [List.length_cons] at h
      rw [e, List.cons_append, List.cons_append, toldK_esc last g q f (40 :: x :: (u ++ b)) (by rw [headK, if_pos rfl, h1])]
      rw [show (40 :: x :: (u ++ b)).drop 2 = u ++ b from rfl, toldK_app last k u b q true (by omega)]
      simp
    · rw [e]; simp
    · have hw : waitK t = false := by simpa using h2
      obtain ⟨e1, e2⟩ := headK_app t b hw
      rw [toldK_bad last g f _ (by rw [e1]; exact h1) (.inl e2), toldK_app last k t b g false (by omega), e]
      rfl
theorem toldK_again (k : Nat) (s : Bs) (g : Int) (f : Bool) (h : s.length ≤ k) : toldK false (toldK false g f s).2.1 (toldK false g f s).2.2.1 (toldK false g f s).2.2.2 = ([], (toldK false g f s).2) := by
  rcases (toldK_rest false k s g f h).2 with h | ⟨_, t, h1, h2⟩
  · rw [h, toldK_nil]
    exact Prod.ext rfl (Prod.ext rfl (Prod.ext rfl h.symm))
  · rw [h2, toldK_wait _ _ t h1]
    exact Prod.ext rfl (Prod.ext rfl (Prod.ext rfl h2.symm))
/-- Which texts wait. -/
theorem waits_iff (s : Bs) (g : Int) (f : Bool) : toldK false g f s = ([], g, f, s) ↔ s = [] ∨ s = [27] ∨ s = [27, 40] := by
  constructor
  · intro h
    cases s with
    | nil => exact .inl rfl
    | cons c t =>
      rcases sayK false g f c t with ⟨_, e⟩ | ⟨rfl, q, x, u, rfl, _, _, e⟩ | ⟨rfl, h1, _, h2, e⟩ | ⟨rfl, _, _, e⟩
      · rw [h] at e; cases e
      · have := (toldK_rest false _ u q true (Nat.le_refl _)).1
        rw [h] at e
        have e4 := congrArg (fun r => r.2.2.2.length) e
        simp only [List.length_cons] at e4
        omega
      · simp only [waitK, decide_eq_true_eq] at h1
        rcases h1 with rfl | rfl <;> simp
      · rw [h] at e; cases e
  · rintro (rfl | rfl | rfl)
    · rw [toldK_nil]
    · exact toldK_wait g f [] rfl
    · exact toldK_wait g f [40] rfl
theorem signK_scalar (g : Int) (c : Nat) : scalar (signK g c) = true := by
  unfold signK
  (repeat' split) <;> simp only [scalar, decide_eq_true_eq] <;> omega
theorem toldK_scalar (last : Bool) : ∀ (k : Nat) (s : Bs) (g : Int) (f : Bool), s.length ≤ k → ∀ n ∈ (toldK last g f s).1, scalar n = true
  | _, [], g, f, _ => by simp [toldK_nil]
  | 0, _ :: _, _, _, h => by simp at h
  | k + 1, c :: t, g, f, h => by
    simp only [List.length_cons] at h
    rcases sayK last g f c t with ⟨_, e⟩ | ⟨rfl, q, x, u, rfl, _, _, e⟩ | ⟨rfl, h1, _, h2, e⟩ | ⟨rfl, _, _, e⟩
    · rw [e]; simp only [List.mem_cons, forall_eq_or_imp]; exact ⟨signK_scalar _ _, toldK_scalar last k t g false (by omega)⟩
    · simp only [List.length_cons] at h
      rw [e]
      intro n hn
      rw [List.mem_append] at hn
      rcases hn with hn | hn
      · split at hn
        · simp at hn; subst hn; decide
        · cases hn
      · exact toldK_scalar last k u q true (by omega) n hn
    · rw [e]; simp
    · rw [e]; simp only [List.mem_cons, forall_eq_or_imp]; exact ⟨by decide, toldK_scalar last k t g false (by omega)⟩
/-! ## The other way -/
def byteK (g n : Int) : Int := if n = 65533 then -1 else match (List.range 128).find? (fun c => signK g c == n) with | some c => (c : Int) | none => -1
def findK (now n : Int) : Int := if 0 ≤ byteK now n then now else if 0 ≤ byteK 0 n then 0 else if 0 ≤ byteK 1 n then 1 else if 0 ≤ byteK 2 n then 2 else -1
def escB (g : Int) : UInt8 := if g = 0 then 66 else if g = 1 then 74 else 73
def shiftB (now g : Int) : Bs := if g = now then [] else [27, 40, escB g]
def encK (now : Int) : List Int → Option Bs
  | [] => some (shiftB now 0)
  | n :: l => if findK now n < 0 then none else (encK (findK now n) l).map (shiftB now (findK now n) ++ UInt8.ofNat (byteK (findK now n) n).toNat :: ·)
def rawK (l : List Int) : Bs × Int := match encK 0 l with | some b => (b, 0) | none => ([], 5)
def encodeK (l : List Int) : Bs × Int := if 3000 < l.length then ([], 2) else rawK l
def hasK (n : Int) : Bool := decide (0 ≤ findK 0 n)

theorem byteK_cases (g n : Int) : (byteK g n = -1 ∧ ∀ c, c < 128 → n = 65533 ∨ signK g c ≠ n) ∨ ∃ c : Nat, c < 128 ∧ byteK g n = (c : Int) ∧ signK g c = n ∧ n ≠ 65533 ∧ c ≠ 27 ∧ ∀ j, j < c → signK g j ≠ n := by
  unfold byteK
  split
  · exact .inl ⟨rfl, fun c _ => .inl (by assumption)⟩
  · rename_i hn
    split
    · rename_i c hc
      obtain ⟨h1, as1, bs, h2, h3⟩ := List.find?_eq_some_iff_append.1 hc
      have hlt : c < 128 := by
        have := List.mem_of_find?_eq_some hc
        simpa using this
      have hs : signK g c = n := by simpa using h1
      refine .inr ⟨c, hlt, rfl, hs, hn, ?_, fun j hj => ?_⟩
      · rintro rfl
        apply hn
        rw [← hs]
        unfold signK
        rw [if_neg (by omega), if_pos (by simp)]
      · have hlen : as1.length = c := by
          have h4 : (List.range 128)[as1.length]? = some c := by rw [h2]; simp
          rw [List.getElem?_range (by
            have := congrArg List.length h2
            simp at this; omega)] at h4
          injection h4
        have h5 : (List.range 128)[j]? = some j := List.getElem?_range (by omega)
        rw [h2, List.getElem?_append_left (by omega)] at h5
        have := h3 j (List.mem_of_getElem? h5)
        simpa using this
    · rename_i hc
      refine .inl ⟨rfl, fun c hlt => .inr ?_⟩
      rw [List.find?_eq_none] at hc
      simpa using hc c (by simpa using hlt)
theorem findK_cases (now n : Int) : findK now n = -1 ∨ ((findK now n = now ∨ findK now n = 0 ∨ findK now n = 1 ∨ findK now n = 2) ∧ 0 ≤ byteK (findK now n) n) := by
  unfold findK
  (repeat' split) <;> simp [*]
theorem escB_esc (g : Int) (h : g = 0 ∨ g = 1 ∨ g = 2) : escK (escB g) = some g := by
  rcases h with rfl | rfl | rfl <;> rfl
theorem toldK_shift (last : Bool) (now g : Int) (u : Bs) (hg : g = 0 ∨ g = 1 ∨ g = 2) : ∃ f, toldK last now false (shiftB now g ++ u) = toldK last g f u := by
  unfold shiftB
  split
  · rename_i h
    subst h
    exact ⟨false, rfl⟩
  · refine ⟨true, ?_⟩
    rw [show ([27, 40, escB g] ++ u : Bs) = 27 :: (40 :: escB g :: u) from rfl, toldK_esc last now g false _ (by rw [headK, if_pos rfl, escB_esc g hg])]
    simp
theorem toldK_enc (last : Bool) : ∀ (l : List Int) (now : Int) (b : Bs), (now = 0 ∨ now = 1 ∨ now = 2) → encK now l = some b → ∃ f, ∀ u, toldK last now false (b ++ u) = (l ++ (toldK last 0 f u).1, (toldK last 0 f u).2)
  | [], now, b, h, hb => by
    rw [encK] at hb
    injection hb with hb
    subst hb
    unfold shiftB
    split
    · rename_i h0
      subst h0
      exact ⟨false, fun u => by simp⟩
    · refine ⟨true, fun u => ?_⟩
      rw [show ([27, 40, escB 0] ++ u : Bs) = 27 :: (40 :: escB 0 :: u) from rfl, toldK_esc last now 0 false _ (by rw [headK, if_pos rfl, escB_esc 0 (.inl rfl)])]
      simp
  | n :: l, now, b, h, hb => by
    rw [encK] at hb
    split at hb
    · cases hb
    · rename_i hf
      rcases findK_cases now n with h1 | ⟨h1, h2⟩
      · omega
      · have hg : findK now n = 0 ∨ findK now n = 1 ∨ findK now n = 2 := by omega
        generalize findK now n = g at hb hf h1 h2 hg
        cases hr : encK g l with
        | none => rw [hr] at hb; cases hb
        | some r =>
          rw [hr] at hb
          injection hb with hb
          subst hb
          rcases byteK_cases g n with ⟨h3, _⟩ | ⟨c, hc, h3, h4, h5, h6, _⟩
          · omega
          · rw [h3, Int.toNat_natCast]
            have hcn : (UInt8.ofNat c).toNat = c := UInt8.toNat_ofNat_of_lt' (show c < 256 by omega)
            obtain ⟨f, hf2⟩ := toldK_enc last l g r hg hr
            refine ⟨f, fun u => ?_⟩
            obtain ⟨f1, e⟩ := toldK_shift last now g (UInt8.ofNat c :: (r ++ u)) hg
            rw [List.append_assoc, List.cons_append, e, toldK_sign last g f1 _ _ (by intro hh; apply h6; rw [← hcn, hh]; rfl), hf2 u, hcn, h4]
            rfl
theorem allK_enc (l : List Int) (b : Bs) (h : encK 0 l = some b) : allK b = l ∧ allK (b ++ [92]) = l ++ [92] := by
  obtain ⟨f, hf⟩ := toldK_enc true l 0 b (.inl rfl) h
  constructor
  · have := hf []
    rw [List.append_nil] at this
    rw [allK, this, toldK_nil]
    simp
  · rw [allK, hf [92], toldK_sign true 0 f 92 [] (by decide), toldK_nil]
    rfl
def plainK (c : UInt8) : Bool := decide (c.toNat < 128 ∧ c.toNat ≠ 14 ∧ c.toNat ≠ 15 ∧ c.toNat ≠ 27)
theorem signK_plain (c : Nat) (h : c < 128 ∧ c ≠ 14 ∧ c ≠ 15 ∧ c ≠ 27) : signK 0 c = (c : Int) := by
  unfold signK
  rw [if_neg (by omega), if_neg (by omega), if_neg (by omega), if_neg (by omega)]
theorem byteK_plain (c : Nat) (h : c < 128 ∧ c ≠ 14 ∧ c ≠ 15 ∧ c ≠ 27) : byteK 0 (c : Int) = (c : Int) := by
  rcases byteK_cases 0 (c : Int) with ⟨_, h2⟩ | ⟨d, hd, h1, h2, h3, h4, h5⟩
  · rcases h2 c h.1 with h3 | h3
    · omega
    · exact absurd (signK_plain c h) h3
  · rw [h1]
    have : signK 0 d = (d : Int) ∨ signK 0 d = 65533 := by
      unfold signK
      rw [if_neg (by omega)]
      split
      · exact .inr rfl
      · rw [if_neg (by omega), if_neg (by omega)]; exact .inl rfl
    omega
theorem toldK_plain (last : Bool) : ∀ (s : Bs) (f : Bool), s.all plainK = true → (toldK last 0 f s).1 = s.map (fun c => (c.toNat : Int))
  | [], f, _ => by rw [toldK_nil]; rfl
  | c :: t, f, h => by
    rw [List.all_cons, Bool.and_eq_true] at h
    have hc := h.1
    simp only [plainK, decide_eq_true_eq] at hc
    rw [toldK_sign last 0 f c t (by rintro rfl; exact hc.2.2.2 rfl), signK_plain _ hc]
    simp only [toldK_plain last t false h.2, List.map_cons]
theorem encK_plain : ∀ (s : Bs), s.all plainK = true → encK 0 (s.map (fun c => (c.toNat : Int))) = some s
  | [], _ => rfl
  | c :: t, h => by
    rw [List.all_cons, Bool.and_eq_true] at h
    have hc := h.1
    simp only [plainK, decide_eq_true_eq] at hc
    have hb := byteK_plain _ hc
    have hf : findK 0 (c.toNat : Int) = 0 := by unfold findK; rw [if_pos (by rw [hb]; omega)]
    rw [List.map_cons, encK, hf, if_neg (by decide), encK_plain t h.2, hb]
    simp [shiftB]
/-! ## Escapes -/
def escsK (gs : List Int) : Bs := gs.flatMap (fun g => [27, 40, escB g])
def badsK : Bool → List Int → List Int
  | _, [] => []
  | f, _ :: gs => (if f = true then [65533] else []) ++ badsK true gs
def lastK (now : Int) : List Int → Int
  | [] => now
  | g :: gs => lastK g gs
def freshK (f : Bool) : List Int → Bool
  | [] => f
  | _ :: _ => true
theorem toldK_escs (last : Bool) : ∀ (gs : List Int) (now : Int) (f : Bool) (u : Bs), (∀ g ∈ gs, g = 0 ∨ g = 1 ∨ g = 2) → toldK last now f (escsK gs ++ u) = (badsK f gs ++ (toldK last (lastK now gs) (freshK f gs) u).1, (toldK last (lastK now gs) (freshK f gs) u).2)
  | [], now, f, u, _ => by simp [escsK, badsK, lastK, freshK]
  | g :: gs, now, f, u, h => by
    have e : escsK (g :: gs) ++ u = 27 :: (40 :: escB g :: (escsK gs ++ u)) := rfl
    have hg := h g (by simp)
    rw [e, toldK_esc last now g f _ (by rw [headK, if_pos rfl, escB_esc g hg])]
    rw [show (40 :: escB g :: (escsK gs ++ u)).drop 2 = escsK gs ++ u from rfl, toldK_escs last gs g true u (fun x hx => h x (by simp [hx]))]
    have hfr : freshK true gs = true := by cases gs <;> rfl
    rw [show freshK f (g :: gs) = true from rfl, hfr]
    simp [badsK, lastK]
/-! ## Steps of the walks -/
theorem byteK_hit (g n : Int) (k : Nat) (h : ∀ j, j < k → n = 65533 ∨ signK g j ≠ n) (hk : k < 128) (hs : signK g k = n) (hn : n ≠ 65533) : byteK g n = (k : Int) := by
  rcases byteK_cases g n with ⟨_, h2⟩ | ⟨c, hc, h1, h2, _, _, h5⟩
  · rcases h2 k hk with h3 | h3
    · exact absurd h3 hn
    · exact absurd hs h3
  · rw [h1]
    have h6 : ¬ c < k := fun hck => by
      rcases h c hck with h7 | h7
      · exact hn h7
      · exact h7 h2
    have h7 : ¬ k < c := fun hkc => h5 k hkc hs
    omega
theorem byteK_miss (g n : Int) (h : ∀ j, j < 128 → n = 65533 ∨ signK g j ≠ n) : byteK g n = -1 := by
  rcases byteK_cases g n with ⟨h1, _⟩ | ⟨c, hc, h1, h2, h3, _, h5⟩
  · exact h1
  · rcases h c hc with h4 | h4
    · exact absurd h4 h3
    · exact absurd h2 h4
theorem byteK_or (g n : Int) : byteK g n = -1 ∨ ∃ c : Nat, c < 128 ∧ byteK g n = (c : Int) ∧ c ≠ 27 := by
  rcases byteK_cases g n with ⟨h1, _⟩ | ⟨c, hc, h1, _, _, h4, _⟩
  · exact .inl h1
  · exact .inr ⟨c, hc, h1, h4⟩
theorem findK_or (now n : Int) : (findK now n = -1 ∧ byteK now n = -1 ∧ byteK 0 n = -1 ∧ byteK 1 n = -1 ∧ byteK 2 n = -1) ∨
    (∃ g c, findK now n = g ∧ (g = now ∨ g = 0 ∨ g = 1 ∨ g = 2) ∧ byteK g n = ((c : Nat) : Int) ∧ c < 128 ∧ c ≠ 27) := by
  have key : ∀ g, 0 ≤ byteK g n → ∃ c : Nat, byteK g n = (c : Int) ∧ c < 128 ∧ c ≠ 27 := fun g h => by
    rcases byteK_or g n with h1 | ⟨c, h1, h2, h3⟩
    · omega
    · exact ⟨c, h2, h1, h3⟩
  have neg : ∀ g, ¬ 0 ≤ byteK g n → byteK g n = -1 := fun g h => by
    rcases byteK_or g n with h1 | ⟨c, _, h2, _⟩
    · exact h1
    · omega
  unfold findK
  split
  · rename_i h
    obtain ⟨c, h1, h2, h3⟩ := key _ h
    exact .inr ⟨now, c, rfl, .inl rfl, h1, h2, h3⟩
  · rename_i h0
    split
    · rename_i h
      obtain ⟨c, h1, h2, h3⟩ := key _ h
      exact .inr ⟨0, c, rfl, .inr (.inl rfl), h1, h2, h3⟩
    · rename_i h1
      split
      · rename_i h
        obtain ⟨c, h1, h2, h3⟩ := key _ h
        exact .inr ⟨1, c, rfl, .inr (.inr (.inl rfl)), h1, h2, h3⟩
      · rename_i h2
        split
        · rename_i h
          obtain ⟨c, h1, h2, h3⟩ := key _ h
          exact .inr ⟨2, c, rfl, .inr (.inr (.inr rfl)), h1, h2, h3⟩
        · rename_i h3
          exact .inl ⟨rfl, neg _ h0, neg _ h1, neg _ h2, neg _ h3⟩
theorem encK_step (now g n : Int) (c : Nat) (l : List Int) (acc : Bs) (hf : findK now n = g) (hg : 0 ≤ g) (hb : byteK g n = (c : Int)) : (encK now (n :: l)).map (acc ++ ·) = (encK g l).map ((acc ++ shiftB now g ++ [UInt8.ofNat c]) ++ ·) := by
  rw [encK, hf, if_neg (by omega), hb, Int.toNat_natCast]
  cases encK g l <;> simp
theorem shiftB_len (now g : Int) : (shiftB now g).length ≤ 3 := by unfold shiftB; split <;> simp
end Go.Proofs.Ytcgdecpjlggekaa.M

/-
  Package kana: plain, sign, shifts, the teller's two methods.
-/
namespace Go.Proofs.Ytcgdecpjlggekaa
open Go.RowKit
set_option maxRecDepth 1000000

def plainN (c : Nat) : Bool := decide (c < 128 ∧ c ≠ 14 ∧ c ≠ 15 ∧ c ≠ 27)
theorem plainK_any (c : Nat) (hc : c < 256) (w : World) : Calls Try.prog 52 #[.int .u8 (c : Int)] w fun e w' => e = .returned (.bool (plainN c)) ∧ w = w' := by
  by_cases h0 : c < 128
  · by_cases h1 : c = 14
    · subst h1
      go_enter Try.func52, Try.ntmps52
      go_wp2
      go_ret
      exact ⟨rfl, rfl⟩
    · by_cases h2 : c = 15
      · subst h2
        go_enter Try.func52, Try.ntmps52
        go_wp2
        go_ret
        exact ⟨rfl, rfl⟩
      · by_cases h3 : c = 27
        · subst h3
          go_enter Try.func52, Try.ntmps52
          go_wp2
          go_ret
          exact ⟨rfl, rfl⟩
        · have e1 : ((c : Int) != 14) = true := by rw [bne_iff_ne]; omega
          have e2 : ((c : Int) != 15) = true := by rw [bne_iff_ne]; omega
          have e3 : ((c : Int) != 27) = true := by rw [bne_iff_ne]; omega
          have H := Lib.hid (show plainN c = true by rw [plainN, decide_eq_true_eq]; omega)
          clear h1 h2 h3
          go_enter Try.func52, Try.ntmps52
          go_wp2
          go_ret
          rw [H.out]
          exact ⟨rfl, rfl⟩
  · have H := Lib.hid (show plainN c = false by rw [plainN, decide_eq_false_iff_not]; omega)
    have h1 : (128 : Int) ≤ (c : Int) := by omega
    go_enter Try.func52, Try.ntmps52
    go_wp2
    go_ret
    rw [H.out]
    exact ⟨rfl, rfl⟩
theorem plainK_to (c : Nat) (hc : c < 256) (b : Bool) (h : plainN c = b) (w : World) : Calls Try.prog 52 #[.int .u8 (c : Int)] w fun e w' => e = .returned (.bool b) ∧ w = w' := by
  have := plainK_any c hc w; rw [h] at this; exact this
theorem sign_any (g : Int) (c : Nat) (hc : c < 256) (w : World) : Calls Try.prog 47 #[.int .i64 g, .int .u8 (c : Int)] w fun e w' => e = .returned (.int .i64 (M.signK g c)) ∧ w = w' := by
  have HP := Lib.hid (show plainN c = plainN c from rfl)
  by_cases hA : g = 2
  · subst hA
    by_cases h1 : 33 ≤ c
    · by_cases h2 : c ≤ 95
      · have E1 := Lib.hid (show (65377 : Int) + (c : Int) - 33 = 65344 + (c : Int) by omega)
        have H := Lib.hid (show M.signK 2 c = 65377 + (c : Int) - 33 by rw [E1.out, M.signK, if_pos ⟨rfl, h1, h2⟩])
        clear HP
        go_enter Try.func47, Try.ntmps47
        go_wp2
        go_ret
        rw [H.out]
        exact ⟨rfl, rfl⟩
      · have H := Lib.hid (show M.signK 2 c = 65533 by rw [M.signK, if_neg (by omega), if_pos (.inl rfl)])
        have h3 : (95 : Int) < (c : Int) := by omega
        clear HP
        go_enter Try.func47, Try.ntmps47
        go_wp2
        go_ret
        rw [H.out]
        exact ⟨rfl, rfl⟩
    · have H := Lib.hid (show M.signK 2 c = 65533 by rw [M.signK, if_neg (by omega), if_pos (.inl rfl)])
      have h3 : (c : Int) < 33 := by omega
      clear HP
      go_enter Try.func47, Try.ntmps47
      go_wp2
      go_ret
      rw [H.out]
      exact ⟨rfl, rfl⟩
  · have e2 : (g == 2) = false := by simpa using hA
    cases hp : plainN c with
    | false =>
      have HP := Lib.hid hp
      have H := Lib.hid (show M.signK g c = 65533 by
        rw [plainN, decide_eq_false_iff_not] at hp
        rw [M.signK, if_neg (by omega), if_pos (by omega)])
      clear hp hA
      go_enter Try.func47, Try.ntmps47
      go_wp2_with (first | (go_at_call 52; refine (plainK_to _ hc _ HP.out _).mono ?_; rintro e w' ⟨rfl, rfl⟩))
      go_ret
      rw [H.out]
      exact ⟨rfl, rfl⟩
    | true =>
      have HP := Lib.hid hp
      rw [plainN, decide_eq_true_eq] at hp
      have hs : M.signK g c = if g = 1 ∧ c = 92 then 165 else if g = 1 ∧ c = 126 then 8254 else (c : Int) := by
        rw [M.signK, if_neg (by omega), if_neg (by omega)]
      by_cases hB : g = 1
      · subst hB
        by_cases h1 : c = 92
        · subst h1
          have H := Lib.hid hs
          clear hs hp
          go_enter Try.func47, Try.ntmps47
          go_wp2_with (first | (go_at_call 52; refine (plainK_to _ hc _ HP.out _).mono ?_; rintro e w' ⟨rfl, rfl⟩))
          go_ret
          rw [H.out]
          exact ⟨rfl, rfl⟩
        · by_cases h2 : c = 126
          · subst h2
            have H := Lib.hid hs
            clear hs hp
            go_enter Try.func47, Try.ntmps47
            go_wp2_with (first | (go_at_call 52; refine (plainK_to _ hc _ HP.out _).mono ?_; rintro e w' ⟨rfl, rfl⟩))
            go_ret
            rw [H.out]
            exact ⟨rfl, rfl⟩
          · have H := Lib.hid (show M.signK 1 c = (c : Int) by rw [hs, if_neg (by omega), if_neg (by omega)])
            have e3 : ((c : Int) == 92) = false := by rw [beq_eq_false_iff_ne]; omega
            have e4 : ((c : Int) == 126) = false := by rw [beq_eq_false_iff_ne]; omega
            clear hs hp h1 h2
            go_enter Try.func47, Try.ntmps47
            go_wp2_with (first | (go_at_call 52; refine (plainK_to _ hc _ HP.out _).mono ?_; rintro e w' ⟨rfl, rfl⟩))
            go_ret
            rw [H.out]
            exact ⟨rfl, rfl⟩
      · have e1 : (g == 1) = false := by simpa using hB
        have H := Lib.hid (show M.signK g c = (c : Int) by rw [hs, if_neg (by omega), if_neg (by omega)])
        clear hs hp hA hB
        go_enter Try.func47, Try.ntmps47
        go_wp2_with (first | (go_at_call 52; refine (plainK_to _ hc _ HP.out _).mono ?_; rintro e w' ⟨rfl, rfl⟩))
        go_ret
        rw [H.out]
        exact ⟨rfl, rfl⟩
theorem esc_at (x : UInt8) : M.escK x = if (66 : Int) = (x.toNat : Int) then some 0 else if (74 : Int) = (x.toNat : Int) then some 1 else if (73 : Int) = (x.toNat : Int) then some 2 else none := by
  have key : ∀ n : Nat, n < 256 → (x = UInt8.ofNat n ↔ (n : Int) = (x.toNat : Int)) := fun n hn => by
    constructor
    · rintro rfl; rw [UInt8.toNat_ofNat_of_lt' hn]
    · intro h; apply UInt8.toNat_inj.1; rw [UInt8.toNat_ofNat_of_lt' hn]; omega
  unfold M.escK
  have k1 := key 66 (by decide)
  have k2 := key 74 (by decide)
  have k3 := key 73 (by decide)
  simp only [show (UInt8.ofNat 66) = 66 from rfl, show (UInt8.ofNat 74) = 74 from rfl, show (UInt8.ofNat 73) = 73 from rfl] at k1 k2 k3
  simp only [k1, k2, k3]
  rfl
def shiftsM (t : List UInt8) : Int × Bool := match M.headK t with | some k => (k, true) | none => (-1, !M.waitK t)
theorem shifts_any (s : ByteArray) (c : UInt8) (t : List UInt8) (hs : s.data.toList = c :: t) (hsz : s.size ≤ 68719476735) (w : World) : Calls Try.prog 48 #[.string s] w fun e w' => e = .returned (.tuple #[.int .i64 (shiftsM t).1, .bool (shiftsM t).2]) ∧ ∃ q, w.drewN q = w' := by
  have hl : s.size = t.length + 1 := by rw [Lib.size_eq, hs]; rfl
  have c66 : (⟨#[66, 74, 73]⟩ : ByteArray)[0].toNat = 66 := rfl
  have c74 : (⟨#[66, 74, 73]⟩ : ByteArray)[1].toNat = 74 := rfl
  have c73 : (⟨#[66, 74, 73]⟩ : ByteArray)[2].toNat = 73 := rfl
  rcases t with _ | ⟨d, _ | ⟨x, u⟩⟩
  · have h1 : s.size ≤ 1 := by rw [hl]; simp
    have H := Lib.hid (show shiftsM [] = (-1, false) from rfl)
    clear hs hl
    go_enter Try.func48, Try.ntmps48
    go_wp2_with fail
    go_ret2
    rw [H.out]
    exact ⟨rfl, 0, rfl⟩
  · obtain ⟨k1, h1⟩ := head_at s 1 d (by rw [hs]; rfl)
    have hle : s.size ≤ 2 := by rw [hl]; simp
    clear hs hl
    by_cases hd : d = 40
    · subst hd
      have H := Lib.hid (show shiftsM [40] = (-1, false) from rfl)
      go_enter Try.func48, Try.ntmps48
      go_wp2_with fail
      go_ret2
      rw [H.out]
      exact ⟨rfl, 0, rfl⟩
    · have e1 : ((d.toNat : Int) != 40) = true := by
        rw [bne_iff_ne]; intro hh; apply hd; apply UInt8.toNat_inj.1; show d.toNat = 40; omega
      have H := Lib.hid (show shiftsM [d] = (-1, true) by simp [shiftsM, M.headK, M.waitK, hd])
      clear hd
      go_enter Try.func48, Try.ntmps48
      go_wp2_with fail
      go_ret2
      rw [H.out]
      exact ⟨rfl, 0, rfl⟩
  · obtain ⟨k1, h1⟩ := head_at s 1 d (by rw [hs]; rfl)
    obtain ⟨k2, h2⟩ := head_at s 2 x (by rw [hs]; rfl)
    have hge : 3 ≤ s.size := by simp only [List.length_cons] at hl; omega
    clear hs hl
    by_cases hd : d = 40
    · subst hd
      have hM : shiftsM (40 :: x :: u) = match M.escK x with | some k => (k, true) | none => (-1, true) := by
        simp only [shiftsM, M.headK, if_true, M.waitK]
        cases M.escK x <;> simp
      rw [esc_at] at hM
      have hxl := x.toNat_lt
      by_cases g1 : (66 : Int) = (x.toNat : Int)
      · have H := Lib.hid (show shiftsM (40 :: x :: u) = (0, true) by rw [hM, if_pos g1])
        have e1 : ((66 : Int) == (x.toNat : Int)) = true := by simpa using g1
        clear hM g1
        go_enter Try.func48, Try.ntmps48
        go_wp2_with fail
        refine wp_loop_rounds 4 ?_
        rw [rounds_succ]
        go_wp2_with fail
        all_goals try (go_quiet (fail); go_wp2_with fail)
        all_goals try (rw [rounds_succ]; go_wp2_with fail)
        all_goals try (go_quiet (fail); go_wp2_with fail)
        all_goals try (rw [rounds_succ]; go_wp2_with fail)
        all_goals try (go_quiet (fail); go_wp2_with fail)
        all_goals try (rw [rounds_succ]; go_wp2_with fail)
        go_ret2
        rw [H.out]
        refine ⟨rfl, ?_⟩
        try simp only [World.drewN_drewN]
        exact ⟨_, rfl⟩
      · have e1 : ((66 : Int) == (x.toNat : Int)) = false := by simpa using g1
        rw [if_neg g1] at hM
        by_cases g2 : (74 : Int) = (x.toNat : Int)
        · have H := Lib.hid (show shiftsM (40 :: x :: u) = (1, true) by rw [hM, if_pos g2])
          have e2 : ((74 : Int) == (x.toNat : Int)) = true := by simpa using g2
          clear hM g1 g2
          go_enter Try.func48, Try.ntmps48
          go_wp2_with fail
          refine wp_loop_rounds 4 ?_
          rw [rounds_succ]
          go_wp2_with fail
          all_goals try (go_quiet (fail); go_wp2_with fail)
          all_goals try (rw [rounds_succ]; go_wp2_with fail)
          all_goals try (go_quiet (fail); go_wp2_with fail)
          all_goals try (rw [rounds_succ]; go_wp2_with fail)
          all_goals try (go_quiet (fail); go_wp2_with fail)
          all_goals try (rw [rounds_succ]; go_wp2_with fail)
          go_ret2
          rw [H.out]
          refine ⟨rfl, ?_⟩
          try simp only [World.drewN_drewN]
          exact ⟨_, rfl⟩
        · have e2 : ((74 : Int) == (x.toNat : Int)) = false := by simpa using g2
          rw [if_neg g2] at hM
          by_cases g3 : (73 : Int) = (x.toNat : Int)
          · have H := Lib.hid (show shiftsM (40 :: x :: u) = (2, true) by rw [hM, if_pos g3])
            have e3 : ((73 : Int) == (x.toNat : Int)) = true := by simpa using g3
            clear hM g1 g2 g3
            go_enter Try.func48, Try.ntmps48
            go_wp2_with fail
            refine wp_loop_rounds 4 ?_
            rw [rounds_succ]
            go_wp2_with fail
            all_goals try (go_quiet (fail); go_wp2_with fail)
            all_goals try (rw [rounds_succ]; go_wp2_with fail)
            all_goals try (go_quiet (fail); go_wp2_with fail)
            all_goals try (rw [rounds_succ]; go_wp2_with fail)
            all_goals try (go_quiet (fail); go_wp2_with fail)
            all_goals try (rw [rounds_succ]; go_wp2_with fail)
            go_ret2
            rw [H.out]
            refine ⟨rfl, ?_⟩
            try simp only [World.drewN_drewN]
            exact ⟨_, rfl⟩
          · have H := Lib.hid (show shiftsM (40 :: x :: u) = (-1, true) by rw [hM, if_neg g3])
            have e3 : ((73 : Int) == (x.toNat : Int)) = false := by simpa using g3
            clear hM g1 g2 g3
            go_enter Try.func48, Try.ntmps48
            go_wp2_with fail
            refine wp_loop_rounds 4 ?_
            rw [rounds_succ]
            go_wp2_with fail
            all_goals try (go_quiet (fail); go_wp2_with fail)
            all_goals try (rw [rounds_succ]; go_wp2_with fail)
            all_goals try (go_quiet (fail); go_wp2_with fail)
            all_goals try (rw [rounds_succ]; go_wp2_with fail)
            all_goals try (go_quiet (fail); go_wp2_with fail)
            all_goals try (rw [rounds_succ]; go_wp2_with fail)
            go_ret2
            rw [H.out]
            refine ⟨rfl, ?_⟩
            try simp only [World.drewN_drewN]
            exact ⟨_, rfl⟩
    · have e1 : ((d.toNat : Int) != 40) = true := by
        rw [bne_iff_ne]; intro hh; apply hd; apply UInt8.toNat_inj.1; show d.toNat = 40; omega
      have H := Lib.hid (show shiftsM (d :: x :: u) = (-1, true) by simp [shiftsM, M.headK, M.waitK, hd])
      clear hd
      go_enter Try.func48, Try.ntmps48
      go_wp2_with fail
      go_ret2
      rw [H.out]
      exact ⟨rfl, 0, rfl⟩
theorem below_set {g : Nat} {a w : World} (h : Below g a w) (i : Nat) (u : Value) : Below g a (w.setCell ⟨g, i, none⟩ u) := Below.setCell h (Nat.le_refl _) u
/-- What a teller tells: one code point for one byte. -/
theorem tellK_any (g : Nat) (sg : Int) (fr : Bool) (s : ByteArray) (v : Value) (xs : List Int) (n : Int) (B : Nat) (w : World) (hB : Box w g 78 [.int .i64 sg, .bool fr, .string s, v]) (hown : Own B 3 w v (xs.map (Value.int .i64))) (hg : g < B) (hBw : B ≤ w.heap.size) (hpos : 0 < s.size) (hsz : s.size ≤ 68719476735) (hl : xs.length < 68719476736) :
    Calls Try.prog 46 #[.pointer (some ⟨g, 0, none⟩), .int .i64 n] w fun e w' => e = .returned (.tuple #[]) ∧ ∃ v', Box w' g 78 [.int .i64 sg, .bool false, .string (s.extract 1 s.size), v'] ∧ Own B 3 w' v' ((xs ++ [n]).map (Value.int .i64)) ∧ Below g w w' := by
  have c1 := hB.cell 3 _ rfl
  go_enter Try.func46, Try.ntmps46
  go_wp2_with (first | ((at_builtin; refine wpList_app rfl (.tmp 8) (.tmp 10) 24 rfl elemInt (by decide) B _ _ _ rfl rfl hown rfl (by simp; omega) (by first | exact Nat.le_refl _ | assumption | (have := hb.size; omega)) ?_; intro v' w1 hown' hb1); have h3 := hB.upto hb1 hg; have d0 := h3.cell 0 _ rfl; have d1 := h3.cell 1 _ rfl; have d2 := h3.cell 2 _ rfl; have d3 := h3.cell 3 _ rfl; have e0 := h3.frozen 0; have e1 := h3.frozen 1; have e2 := h3.frozen 2; have e3 := h3.frozen 3; obtain ⟨A', c', hv', _⟩ := hown'.form; simp at hv'; subst hv'))
  go_end0
  refine ⟨rfl, _, ((h3.set 3 _).set 2 _).set 1 _, ?_, ?_⟩
  · rw [List.map_append]
    exact ((hown'.setCell (p := ⟨g, 3, none⟩) hg _).setCell (p := ⟨g, 2, none⟩) hg _).setCell (p := ⟨g, 1, none⟩) hg _
  · exact below_set (below_set (below_set (Below.mono hb1 (Nat.le_of_lt hg)) _ _) _ _) _ _
theorem shiftK_any (g : Nat) (sg k : Int) (fr : Bool) (s : ByteArray) (v : Value) (xs : List Int) (B : Nat) (w : World) (hB : Box w g 78 [.int .i64 sg, .bool fr, .string s, v]) (hown : Own B 3 w v (xs.map (Value.int .i64))) (hg : g < B) (hBw : B ≤ w.heap.size) (hpos : 3 ≤ s.size) (hsz : s.size ≤ 68719476735) (hl : xs.length < 68719476736) :
    Calls Try.prog 49 #[.pointer (some ⟨g, 0, none⟩), .int .i64 k] w fun e w' => e = .returned (.tuple #[]) ∧ ∃ v', Box w' g 78 [.int .i64 k, .bool true, .string (s.extract 3 s.size), v'] ∧ Own B 3 w' v' ((xs ++ if fr = true then [65533] else []).map (Value.int .i64)) ∧ Below g w w' := by
  have c0 := hB.cell 0 _ rfl
  have c1 := hB.cell 1 _ rfl
  have c2 := hB.cell 2 _ rfl
  have c3 := hB.cell 3 _ rfl
  have f0 := hB.frozen 0
  have f1 := hB.frozen 1
  have f2 := hB.frozen 2
  have f3 := hB.frozen 3
  cases fr with
  | false =>
    go_enter Try.func49, Try.ntmps49
    go_wp2_with fail
    go_end0
    refine ⟨rfl, _, ((hB.set 0 _).set 1 _).set 2 _, ?_, ?_⟩
    · exact ((hown.setCell (p := ⟨g, 0, none⟩) hg _).setCell (p := ⟨g, 1, none⟩) hg _).setCell (p := ⟨g, 2, none⟩) hg _
    · exact below_set (below_set (below_set (Below.refl _ _) _ _) _ _) _ _
  | true =>
    go_enter Try.func49, Try.ntmps49
    go_wp2_with (first | ((at_builtin; refine wpList_app rfl (.tmp 13) (.tmp 14) 24 rfl elemInt (by decide) B _ _ _ rfl rfl hown rfl (by simp; omega) (by first | exact Nat.le_refl _ | assumption | (have := hb.size; omega)) ?_; intro v' w1 hown' hb1); have h3 := hB.upto hb1 hg; have d0 := h3.cell 0 _ rfl; have d1 := h3.cell 1 _ rfl; have d2 := h3.cell 2 _ rfl; have d3 := h3.cell 3 _ rfl; have e0 := h3.frozen 0; have e1 := h3.frozen 1; have e2 := h3.frozen 2; have e3 := h3.frozen 3; obtain ⟨A', c', hv', _⟩ := hown'.form; simp at hv'; subst hv'))
    go_end0
    refine ⟨rfl, _, (((h3.set 3 _).set 0 _).set 1 _).set 2 _, ?_, ?_⟩
    · exact (((hown'.setCell (p := ⟨g, 3, none⟩) hg _).setCell (p := ⟨g, 0, none⟩) hg _).setCell (p := ⟨g, 1, none⟩) hg _).setCell (p := ⟨g, 2, none⟩) hg _
    · exact below_set (below_set (below_set (below_set (Below.mono hb1 (Nat.le_of_lt hg)) _ _) _ _) _ _) _ _
end Go.Proofs.Ytcgdecpjlggekaa

/-
  Package kana: Told, All, Decode.
-/
namespace Go.Proofs.Ytcgdecpjlggekaa
open Go.RowKit
set_option maxRecDepth 1000000

theorem shifts_to (s : ByteArray) (c : UInt8) (t : List UInt8) (k : Int) (b : Bool) (h : shiftsM t = (k, b)) (hs : s.data.toList = c :: t) (hsz : s.size ≤ 68719476735) (w : World) : Calls Try.prog 48 #[.string s] w fun e w' => e = .returned (.tuple #[.int .i64 k, .bool b]) ∧ ∃ q, w.drewN q = w' := by
  have := shifts_any s c t hs hsz w; rw [h] at this; exact this
theorem sign_to (g : Int) (c : Nat) (n : Int) (h : M.signK g c = n) (hc : c < 256) (w : World) : Calls Try.prog 47 #[.int .i64 g, .int .u8 (c : Int)] w fun e w' => e = .returned (.int .i64 n) ∧ w = w' := by
  have := sign_any g c hc w; rw [h] at this; exact this
set_option maxHeartbeats 4000000 in
theorem toldK_any (g : Int) (f : Bool) (s : ByteArray) (last : Bool) (hs : s.size ≤ 68719476735) (w : World) : Calls Try.prog 40 #[.agg #[.int .i64 g, .bool f], .string s, .bool last] w fun e w' =>
    ∃ v, e = .returned (.tuple #[v, .agg #[.int .i64 (M.toldK last g f s.data.toList).2.1, .bool (M.toldK last g f s.data.toList).2.2.1], .string ⟨(M.toldK last g f s.data.toList).2.2.2.toArray⟩]) ∧ Own w.heap.size 3 w' v ((M.toldK last g f s.data.toList).1.map (Value.int .i64)) ∧ Bel w w' := by
  go_enter Try.func40, Try.ntmps40
  go_wp2_with fail
  go_loopw [] (fun wr => ∃ (s' : ByteArray) (xs : List Int) (sg : Int) (fr : Bool) (v : Value), Box wr (w.heap.size + 2) 78 [.int .i64 sg, .bool fr, .string s', v] ∧ Box wr (w.heap.size + 1) 66 [.int .i64 0, .bool false] ∧ xs.length + s'.size ≤ s.size ∧ Hid (M.toldK last g f s.data.toList = (xs ++ (M.toldK last sg fr s'.data.toList).1, (M.toldK last sg fr s'.data.toList).2)) ∧ Own (w.heap.size + 3) 3 wr v (xs.map (Value.int .i64)) ∧ Bel w wr) (fun wr => cellLen wr ⟨w.heap.size + 2, 2, none⟩)
  case atStart =>
    exact ⟨s, [], g, f, .slice none 0 0, (by have := Box.new ((w.alloc (.cells #[.int .i64 g, .bool f] 66)).alloc (.cells #[.int .i64 0, .bool false] 66)) 78 [.int .i64 g, .bool f, .string s, .slice none 0 0]; simpa using this), (by have := (Box.new (w.alloc (.cells #[.int .i64 g, .bool f] 66)) 66 [.int .i64 0, .bool false]).bel ((Bel.refl _).alloc (.cells #[.int .i64 g, .bool f, .string s, .slice none 0 0] 78)); simpa using this), by simp, Lib.hid (by simp), Own.nil _ _ _, (by repeat (first | exact Bel.refl _ | refine Bel.drewN ?_ _ | refine Bel.drew ?_ | refine Bel.alloc ?_ _ | refine Bel.trans ?_ (by assumption) | refine Bel.setCell ?_ (by simp; omega) _))⟩
  case round =>
    obtain ⟨s', xs, sg, fr, v, hB, hR, hle, HT, hown, hb⟩ := hrel
    have c0 := hB.cell 0 _ rfl
    have c1 := hB.cell 1 _ rfl
    have c2 := hB.cell 2 _ rfl
    have c3 := hB.cell 3 _ rfl
    have r0 := hR.cell 0 _ rfl
    have r1 := hR.cell 1 _ rfl
    have q0 := hR.frozen 0
    have q1 := hR.frozen 1
    have hsz : w.heap.size + 3 ≤ wr.heap.size := hB.lt
    by_cases he : s'.size = 0
    · have e0 : s'.data.toList = [] := List.eq_nil_of_length_eq_zero (by rw [← Lib.size_eq]; exact he)
      have HF := Lib.hid (show M.toldK last g f s.data.toList = (xs, sg, fr, []) by
        rw [HT.out, e0, M.toldK_nil]; simp)
      have e1 : (!s'.toList.isEmpty) = false := by rw [Lib.toList_data, e0]; rfl
      clear he e0
      go_wp2_with fail
      go_region
      go_wp2_with fail
      have d0 : ((wr.setCell ⟨w.heap.size + 1, 0, none⟩ (.int .i64 sg)).setCell ⟨w.heap.size + 1, 1, none⟩ (.bool fr)).drew.cell? ⟨w.heap.size + 1, 0, none⟩ = some (.int .i64 sg) := ((hR.set 0 _).set 1 _).cell 0 _ rfl
      have d1 : ((wr.setCell ⟨w.heap.size + 1, 0, none⟩ (.int .i64 sg)).setCell ⟨w.heap.size + 1, 1, none⟩ (.bool fr)).drew.cell? ⟨w.heap.size + 1, 1, none⟩ = some (.bool fr) := ((hR.set 0 _).set 1 _).cell 1 _ rfl
      refine bodyPost_ret (v := .tuple #[v, .agg #[.int .i64 sg, .bool fr], .string ⟨#[]⟩]) (by simp [results, Try.results40, go_sem, d0, d1]) rfl ?_
      rw [HF.out]
      exact ⟨_, rfl, (((hown.setCell (p := ⟨w.heap.size + 1, 0, none⟩) (by simp) _).setCell (p := ⟨w.heap.size + 1, 1, none⟩) (by simp) _).mono (by omega)).drew, ((hb.setCell (p := ⟨w.heap.size + 1, 0, none⟩) (by simp) _).setCell (p := ⟨w.heap.size + 1, 1, none⟩) (by simp) _).drew⟩
    · have hpos : 0 < s'.size := by omega
      obtain ⟨c, t, hct⟩ := cons_of_pos s' hpos
      obtain ⟨k0, h0⟩ := head_at s' 0 c (by rw [hct]; rfl)
      have e1 : (!s'.toList.isEmpty) = true := by rw [Lib.toList_data, hct]; rfl
      have hcl := c.toNat_lt
      have hts : s'.size = t.length + 1 := by rw [Lib.size_eq, hct]; rfl
      have HB2 := Lib.hid hB
      rcases M.sayK last sg fr c t with ⟨hc, e⟩ | ⟨rfl, k, x, u, rfl, hk, hh, e⟩ | ⟨rfl, hw, hh, rfl, e⟩ | ⟨rfl, hh, hw, e⟩
      · have e27 : ((c.toNat : Int) != 27) = true := by
          rw [bne_iff_ne]; intro h; apply hc; apply UInt8.toNat_inj.1; show c.toNat = 27; omega
        obtain ⟨n, hn⟩ : ∃ n, M.signK sg c.toNat = n := ⟨_, rfl⟩
        have HN := Lib.hid hn
        have HF := Lib.hid (show M.toldK last g f s.data.toList = ((xs ++ [n]) ++ (M.toldK last sg false (s'.extract 1 s'.size).data.toList).1, (M.toldK last sg false (s'.extract 1 s'.size).data.toList).2) by
          rw [HT.out, drop_str, hct, e, hn]; simp)
        have HS := Lib.hid (drop_size s' 1)
        clear he hct hc hn e hts
        go_wp2_with fail
        go_region_with ((first | (go_at_call 47; refine (sign_to sg c.toNat n HN.out (by omega) _).mono ?_; rintro e w1 ⟨rfl, rfl⟩) | (go_at_call 46; refine (tellK_any (w.heap.size + 2) sg fr s' v xs n (w.heap.size + 3) wr.drew HB2.out hown (by omega) hsz hpos (by omega) (by omega)).mono ?_; rintro e w1 ⟨rfl, v1, hB1, hown1, hb1⟩)))
        all_goals
          go_wp2_with fail
          go_roundw
          case rel => exact ⟨s'.extract 1 s'.size, xs ++ [n], sg, false, v1, hB1, Box.upto (B := w.heap.size + 2) (w := wr.drew) hR hb1 (by omega), by rw [HS.out, List.length_append, List.length_singleton]; omega, HF, hown1, Bel.upto (Bel.drew hb) hb1 (by omega)⟩
          case measure => rw [cellLen_of c2, cellLen_of (hB1.cell 2 _ rfl), HS.out]; omega
      · -- an escape
        obtain ⟨k2, hk2⟩ : ∃ r, (xs ++ if fr = true then [(65533 : Int)] else []) = r := ⟨_, rfl⟩
        have HK2 := Lib.hid hk2
        have HF := Lib.hid (show M.toldK last g f s.data.toList = (k2 ++ (M.toldK last k true (s'.extract 3 s'.size).data.toList).1, (M.toldK last k true (s'.extract 3 s'.size).data.toList).2) by
          rw [HT.out, drop_str, hct, e, ← hk2]; simp)
        have HS := Lib.hid (drop_size s' 3)
        have hk20 : k2.length ≤ xs.length + 1 := by rw [← hk2, List.length_append]; split <;> simp
        have HC := Lib.hid hct
        have HSH := Lib.hid (show shiftsM (40 :: x :: u) = (k, true) by rw [shiftsM, hh])
        have hk0 : 0 ≤ k := by
          unfold M.escK at hk
          (repeat' split at hk) <;> first | (injection hk with hk; omega) | cases hk
        have h3 : 3 ≤ s'.size := by rw [hts]; simp only [List.length_cons]; omega
        have c27 : ((27 : UInt8).toNat : Int) = 27 := rfl
        clear he hct hk hh e hts hk2
        go_wp2_with fail
        refine (shifts_to s' 27 (40 :: x :: u) k true HSH.out HC.out (by omega) _).mono ?_
        rintro e w1 ⟨rfl, q, rfl⟩
        have hsz2 : w.heap.size + 3 ≤ (wr.drewN q).heap.size := hsz
        go_wp2_with fail
        refine (shiftK_any (w.heap.size + 2) sg k fr s' v xs (w.heap.size + 3) (wr.drewN q) (HB2.out.drewN q) (hown.drewN q) (by omega) hsz2 h3 (by omega) (by omega)).mono ?_
        rintro e w1 ⟨rfl, v1, hB1, hown1, hb1⟩
        rw [HK2.out] at hown1
        go_wp2_with fail
        go_roundw
        case rel => exact ⟨s'.extract 3 s'.size, k2, k, true, v1, hB1, Box.upto (B := w.heap.size + 2) (hR.drewN q) hb1 (by omega), by rw [HS.out]; omega, HF, hown1, Bel.upto (Bel.drewN hb q) hb1 (by omega)⟩
        case measure => rw [cellLen_of c2, cellLen_of (hB1.cell 2 _ rfl), HS.out]; omega
      · -- more must come
        have HF := Lib.hid (show M.toldK false g f s.data.toList = (xs, sg, fr, s'.data.toList) by
          rw [HT.out, hct, e]; simp)
        have HC := Lib.hid hct
        have HSH := Lib.hid (show shiftsM t = (-1, false) by rw [shiftsM, hh]; simp [hw])
        clear he hct hw hh e hts
        go_wp2_with fail
        refine (shifts_to s' 27 t (-1) false HSH.out HC.out (by omega) _).mono ?_
        rintro e w1 ⟨rfl, q, rfl⟩
        go_wp2_with fail
        go_region
        go_wp2_with fail
        have d0 : (((wr.drewN (q + 1)).setCell ⟨w.heap.size + 1, 0, none⟩ (.int .i64 sg)).setCell ⟨w.heap.size + 1, 1, none⟩ (.bool fr)).cell? ⟨w.heap.size + 1, 0, none⟩ = some (.int .i64 sg) := (((hR.drewN (q + 1)).set 0 _).set 1 _).cell 0 _ rfl
        have d1 : (((wr.drewN (q + 1)).setCell ⟨w.heap.size + 1, 0, none⟩ (.int .i64 sg)).setCell ⟨w.heap.size + 1, 1, none⟩ (.bool fr)).cell? ⟨w.heap.size + 1, 1, none⟩ = some (.bool fr) := (((hR.drewN (q + 1)).set 0 _).set 1 _).cell 1 _ rfl
        refine bodyPost_ret (v := .tuple #[v, .agg #[.int .i64 sg, .bool fr], .string s']) (by simp [results, Try.results40, go_sem, d0, d1]) rfl ?_
        rw [HF.out]
        exact ⟨_, by rw [str_eq], (((hown.drewN (q + 1)).setCell (p := ⟨w.heap.size + 1, 0, none⟩) (by simp) _).setCell (p := ⟨w.heap.size + 1, 1, none⟩) (by simp) _).mono (by omega), ((Bel.drewN hb (q + 1)).setCell (p := ⟨w.heap.size + 1, 0, none⟩) (by simp) _).setCell (p := ⟨w.heap.size + 1, 1, none⟩) (by simp) _⟩
      · -- no escape
        have HF := Lib.hid (show M.toldK last g f s.data.toList = ((xs ++ [65533]) ++ (M.toldK last sg false (s'.extract 1 s'.size).data.toList).1, (M.toldK last sg false (s'.extract 1 s'.size).data.toList).2) by
          rw [HT.out, drop_str, hct, e]; simp)
        have HS := Lib.hid (drop_size s' 1)
        have HC := Lib.hid hct
        obtain ⟨b, hb0⟩ : ∃ b, shiftsM t = (-1, b) := ⟨_, by rw [shiftsM, hh]⟩
        have hbl : b = true ∨ (b = false ∧ last = true) := by
          rcases hw with hw | hw
          · left
            rw [shiftsM, hh, hw] at hb0
            simpa using hb0.symm
          · cases b
            · exact .inr ⟨rfl, hw⟩
            · exact .inl rfl
        have HSH := Lib.hid hb0
        clear he hct hw hh e hts hb0
        rcases hbl with rfl | ⟨rfl, rfl⟩
        all_goals
          go_wp2_with fail
          refine (shifts_to s' 27 t (-1) _ HSH.out HC.out (by omega) _).mono ?_
          rintro e w1 ⟨rfl, q, rfl⟩
          have hsz2 : w.heap.size + 3 ≤ (wr.drewN q).heap.size := hsz
          go_wp2_with fail
          refine (tellK_any (w.heap.size + 2) sg fr s' v xs 65533 (w.heap.size + 3) (wr.drewN q) (HB2.out.drewN q) (hown.drewN q) (by omega) hsz2 hpos (by omega) (by omega)).mono ?_
          rintro e w1 ⟨rfl, v1, hB1, hown1, hb1⟩
          go_wp2_with fail
          go_roundw
          case rel => exact ⟨s'.extract 1 s'.size, xs ++ [65533], sg, false, v1, hB1, Box.upto (B := w.heap.size + 2) (hR.drewN q) hb1 (by omega), by rw [HS.out, List.length_append, List.length_singleton]; omega, HF, hown1, Bel.upto (Bel.drewN hb q) hb1 (by omega)⟩
          case measure => rw [cellLen_of c2, cellLen_of (hB1.cell 2 _ rfl), HS.out]; omega
end Go.Proofs.Ytcgdecpjlggekaa

/-
  Package kana: All, Decode, byteOf, find, escape, Raw, Encode.
-/
namespace Go.Proofs.Ytcgdecpjlggekaa
open Go.RowKit
set_option maxRecDepth 1000000

theorem toldK_to (g : Int) (f : Bool) (s : ByteArray) (last : Bool) (xs : List Int) (g2 : Int) (f2 : Bool) (l : List UInt8) (h : M.toldK last g f s.data.toList = (xs, g2, f2, l)) (hs : s.size ≤ 68719476735) (w : World) : Calls Try.prog 40 #[.agg #[.int .i64 g, .bool f], .string s, .bool last] w fun e w' =>
    ∃ v, e = .returned (.tuple #[v, .agg #[.int .i64 g2, .bool f2], .string ⟨l.toArray⟩]) ∧ Own w.heap.size 3 w' v (xs.map (Value.int .i64)) ∧ Bel w w' := by
  have := toldK_any g f s last hs w; rw [h] at this; exact this
theorem allKana_any (s : ByteArray) (hs : s.size ≤ 68719476735) (w : World) : Calls Try.prog 31 #[.string s] w fun e w' => ∃ v, e = .returned v ∧ Own w.heap.size 3 w' v ((M.allK s.data.toList).map (Value.int .i64)) ∧ Bel w w' := by
  obtain ⟨⟨xs, g, f, l⟩, ht⟩ : ∃ r, M.toldK true 0 false s.data.toList = r := ⟨_, rfl⟩
  have Ht := Lib.hid ht
  have HA := Lib.hid (show M.allK s.data.toList = xs by rw [M.allK, ht])
  clear ht
  go_enter Try.func31, Try.ntmps31
  go_wp2_with (go_at_call 40; refine (toldK_to _ _ _ _ _ _ _ _ Ht.out hs _).mono ?_; rintro e w' ⟨v, rfl, ho, hb⟩)
  go_ret
  rw [HA.out]
  exact ⟨_, rfl, ho.alloc _, hb.alloc _⟩
end Go.Proofs.Ytcgdecpjlggekaa

/-
  UTF-8, in plain functions: what is encoded is decoded as it was; where a text may be cut.
-/
namespace Go.Proofs.Ytcgdecpjlggekaa.M
open Go

theorem u8ofNat (a : UInt8) (n : Nat) (h : a.toNat = n) : UInt8.ofNat n = a := by subst h; exact UInt8.ofNat_toNat
/-- The three ways of a sequence that is begun. -/
theorem go8_say : ∀ (m : Nat) (l : Bs) (i n lo hi : Int),
    (∃ p u, l = p ++ u ∧ p.length = m ∧ (∀ b t, p = b :: t → lo ≤ (b.toNat : Int) ∧ (b.toNat : Int) ≤ hi) ∧ (∀ b ∈ p.tail, 128 ≤ b.toNat ∧ b.toNat ≤ 191) ∧
      ∀ u', go8 m (p ++ u') i n lo hi = (p.foldl (fun n b => n * 64 + (b.toNat : Int) % 64) n, i + m, true)) ∨
    (∃ p b u, l = p ++ b :: u ∧ p.length < m ∧ (∀ u', go8 m (p ++ b :: u') i n lo hi = (65533, i + p.length, true)) ∧ go8 m p i n lo hi = (65533, i + p.length, false)) ∨
    (l.length < m ∧ go8 m l i n lo hi = (65533, i + l.length, false))
  | 0, l, i, n, lo, hi => .inl ⟨[], l, rfl, rfl, (fun _ _ h => by cases h), (fun _ h => by cases h), fun u' => by simp [go8]⟩
  | m + 1, [], i, n, lo, hi => .inr (.inr ⟨by simp, by simp [go8]⟩)
  | m + 1, b :: t, i, n, lo, hi => by
    by_cases h : (b.toNat : Int) < lo ∨ hi < (b.toNat : Int)
    · refine .inr (.inl ⟨[], b, t, rfl, by simp, fun u' => ?_, ?_⟩)
      · rw [List.nil_append, go8, if_pos h]; simp
      · simp [go8]
    · rcases go8_say m t (i + 1) (n * 64 + (b.toNat : Int) % 64) 128 191 with ⟨p, u, rfl, hp, h1, h2, h3⟩ | ⟨p, c, u, rfl, hp, h1, h2⟩ | ⟨hl, h1⟩
      · refine .inl ⟨b :: p, u, rfl, by simp [hp], fun b' t' hh => ?_, fun b' hb' => ?_, fun u' => ?_⟩
        · injection hh with h4 h5
          subst h4
          omega
        · rw [List.tail_cons] at hb'
          cases p with
          | nil => cases hb'
          | cons x y =>
            rcases List.mem_cons.1 hb' with rfl | hb'
            · have := h1 b' y rfl; omega
            · exact h2 b' hb'
        · rw [List.cons_append, go8, if_neg h, h3]
          simp only [List.foldl_cons, Prod.mk.injEq, and_true, true_and]
          omega
      · refine .inr (.inl ⟨b :: p, c, u, rfl, by simp; omega, fun u' => ?_, ?_⟩)
        · rw [List.cons_append, go8, if_neg h, h1]
          simp only [List.length_cons, Prod.mk.injEq, and_true, true_and]
          omega
        · rw [go8, if_neg h, h2]
          simp only [List.length_cons, Prod.mk.injEq, and_true, true_and]
          omega
      · refine .inr (.inr ⟨by simp; omega, ?_⟩)
        rw [go8, if_neg h, h1]
        simp only [List.length_cons, Prod.mk.injEq, and_true, true_and]
        omega
set_option maxHeartbeats 4000000 in
/-- A sequence that is whole: what it tells is told by itself. -/
theorem whole8 (c : UInt8) (p : Bs) (h0 : ¬ (lead8 c.toNat).1 < 0) (hp : p.length = (lead8 c.toNat).1.toNat)
    (h1 : ∀ b t, p = b :: t → (lead8 c.toNat).2.2.1 ≤ (b.toNat : Int) ∧ (b.toNat : Int) ≤ (lead8 c.toNat).2.2.2) (h2 : ∀ b ∈ p.tail, 128 ≤ b.toNat ∧ b.toNat ≤ 191) :
    scalar (p.foldl (fun n b => n * 64 + (b.toNat : Int) % 64) (lead8 c.toNat).2.1) = true ∧ row8 (p.foldl (fun n b => n * 64 + (b.toNat : Int) % 64) (lead8 c.toNat).2.1) = c :: p := by
  have hc := c.toNat_lt
  have key : ∀ (m : Nat) (n lo hi : Int), lead8 c.toNat = ((m : Int), n, lo, hi) → p.length = m → (∀ b t, p = b :: t → lo ≤ (b.toNat : Int) ∧ (b.toNat : Int) ≤ hi) →
      scalar (p.foldl (fun n b => n * 64 + (b.toNat : Int) % 64) n) = true ∧ row8 (p.foldl (fun n b => n * 64 + (b.toNat : Int) % 64) n) = c :: p := by
    intro m n lo hi hl hp h1
    unfold lead8 at hl
    have fin1 : ∀ a : Nat, 128 ≤ a → a ≤ 191 → 0 ≤ ((a : Int) % 64) ∧ (a : Int) % 64 = (a : Int) - 128 := by omega
    match p, hp, h1, h2 with
    | [], hp, _, _ =>
      have hm : m = 0 := by simpa using hp.symm
      subst hm
      (repeat' split at hl) <;> simp only [Prod.mk.injEq] at hl <;> try omega
      obtain ⟨_, rfl, _⟩ := hl
      refine ⟨by simp [scalar]; omega, ?_⟩
      rw [List.foldl_nil, row8, if_pos (by omega), Int.toNat_natCast, UInt8.ofNat_toNat]
    | [b], hp, h1, _ =>
      have hm : m = 1 := by simpa using hp.symm
      subst hm
      have hb := h1 b [] rfl
      have hb2 := b.toNat_lt
      simp only [List.foldl_cons, List.foldl_nil]
      (repeat' split at hl) <;> simp only [Prod.mk.injEq] at hl <;> try omega
      obtain ⟨_, rfl, rfl, rfl⟩ := hl
      refine ⟨by unfold scalar; rw [decide_eq_true_eq]; omega, ?_⟩
      rw [row8, if_neg (by omega), if_pos (by omega), u8ofNat c _ (by omega), u8ofNat b _ (by omega)]
    | [b, d], hp, h1, h2 =>
      have hm : m = 2 := by simpa using hp.symm
      subst hm
      have hb := h1 b [d] rfl
      have hb2 := b.toNat_lt
      have hd := h2 d (by simp)
      simp only [List.foldl_cons, List.foldl_nil]
      (repeat' split at hl) <;> simp only [Prod.mk.injEq] at hl <;> try omega
      all_goals
        obtain ⟨_, rfl, rfl, rfl⟩ := hl
        refine ⟨by unfold scalar; rw [decide_eq_true_eq]; omega, ?_⟩
        rw [row8, if_neg (by omega), if_neg (by omega), if_pos (by omega), u8ofNat c _ (by omega), u8ofNat b _ (by omega), u8ofNat d _ (by omega)]
    | [b, d, e], hp, h1, h2 =>
      have hm : m = 3 := by simpa using hp.symm
      subst hm
      have hb := h1 b [d, e] rfl
      have hb2 := b.toNat_lt
      have hd := h2 d (by simp)
      have he := h2 e (by simp)
      simp only [List.foldl_cons, List.foldl_nil]
      (repeat' split at hl) <;> simp only [Prod.mk.injEq] at hl <;> try omega
      all_goals
        obtain ⟨_, rfl, rfl, rfl⟩ := hl
        refine ⟨by unfold scalar; rw [decide_eq_true_eq]; omega, ?_⟩
        rw [row8, if_neg (by omega), if_neg (by omega), if_neg (by omega), u8ofNat c _ (by omega), u8ofNat b _ (by omega), u8ofNat d _ (by omega), u8ofNat e _ (by omega)]
    | b :: d :: e :: f :: t, hp, _, _ =>
      exfalso
      simp only [List.length_cons] at hp
      (repeat' split at hl) <;> simp only [Prod.mk.injEq] at hl <;> omega
  rcases lead8_bounds c.toNat with h | ⟨h3, _⟩
  · omega
  · refine key (lead8 c.toNat).1.toNat _ _ _ ?_ hp h1
    rw [Int.toNat_of_nonneg h3]
theorem u8to (k : Nat) (h : k < 256) : (UInt8.ofNat k).toNat = k := UInt8.toNat_ofNat_of_lt' h
theorem row8_cons (n : Int) : ∃ c t, row8 n = c :: t := by unfold row8; (repeat' split) <;> exact ⟨_, _, rfl⟩
theorem first8_lead (c : UInt8) (t : Bs) (m : Nat) (v lo hi : Int) (h : lead8 c.toNat = ((m : Int), v, lo, hi)) : first8 (c :: t) = go8 m t 1 v lo hi := by
  rw [first8, h, if_neg (show ¬ ((m : Int) < 0) by omega)]
  rfl
theorem first8_row (n : Int) (h : scalar n = true) (u : Bs) : first8 (row8 n ++ u) = (n, ((row8 n).length : Int), true) := by
  have h' : 0 ≤ n ∧ n ≤ 1114111 ∧ (n < 55296 ∨ 57343 < n) := by simpa [scalar] using h
  obtain ⟨m, rfl⟩ := Int.eq_ofNat_of_zero_le h'.1
  clear h
  by_cases g1 : m < 128
  · have hr : row8 (m : Int) = [UInt8.ofNat m] := by rw [row8, if_pos (by omega), Int.toNat_natCast]
    have hx := u8to m (by omega)
    have hl : lead8 (UInt8.ofNat m).toNat = (0, (m : Int), 0, 0) := by rw [hx, lead8, if_pos g1]
    rw [hr, List.singleton_append, first8_lead _ _ 0 _ _ _ hl]
    rfl
  · by_cases g2 : m < 2048
    · have hr : row8 (m : Int) = [UInt8.ofNat (192 + m / 64), UInt8.ofNat (128 + m % 64)] := by rw [row8, if_neg (by omega), if_pos (by omega), Int.toNat_natCast]
      have hx := u8to (192 + m / 64) (by omega)
      have hy := u8to (128 + m % 64) (by omega)
      have hl : lead8 (UInt8.ofNat (192 + m / 64)).toNat = (1, ((m / 64 : Nat) : Int), 128, 191) := by
        rw [hx, lead8, if_neg (by omega), if_neg (by omega), if_pos (by omega)]; simp only [Prod.mk.injEq, and_true, true_and]; omega
      rw [hr, List.cons_append, List.singleton_append, first8_lead _ _ 1 _ _ _ hl]
      rw [go8, if_neg (by rw [hy]; omega), go8, hy]
      simp only [List.length_cons, List.length_nil, Prod.mk.injEq, and_true]
      omega
    · by_cases g3 : m < 65536
      · have hr : row8 (m : Int) = [UInt8.ofNat (224 + m / 4096), UInt8.ofNat (128 + m / 64 % 64), UInt8.ofNat (128 + m % 64)] := by rw [row8, if_neg (by omega), if_neg (by omega), if_pos (by omega), Int.toNat_natCast]
        have hx := u8to (224 + m / 4096) (by omega)
        have hy := u8to (128 + m / 64 % 64) (by omega)
        have hz := u8to (128 + m % 64) (by omega)
        obtain ⟨lo, hi, hl, hlo, hhi⟩ : ∃ lo hi : Int, lead8 (224 + m / 4096) = (2, ((m / 4096 : Nat) : Int), lo, hi) ∧ lo ≤ ((128 + m / 64 % 64 : Nat) : Int) ∧ ((128 + m / 64 % 64 : Nat) : Int) ≤ hi := by
          unfold lead8
          rw [if_neg (by omega), if_neg (by omega), if_neg (by omega)]
          split
          · exact ⟨160, 191, by simp only [Prod.mk.injEq, and_true, true_and]; omega, by omega, by omega⟩
          · split
            · exact ⟨128, 159, by simp only [Prod.mk.injEq, and_true, true_and]; omega, by omega, by omega⟩
            · rw [if_pos (by omega)]
              exact ⟨128, 191, by simp only [Prod.mk.injEq, and_true, true_and]; omega, by omega, by omega⟩
        rw [hr, List.cons_append, List.cons_append, List.singleton_append, first8_lead _ _ 2 _ _ _ (by rw [hx]; exact hl)]
        rw [go8, if_neg (by rw [hy]; omega), go8, if_neg (by rw [hz]; omega), go8, hy, hz]
        simp only [List.length_cons, List.length_nil, Prod.mk.injEq, and_true]
        omega
      · have hr : row8 (m : Int) = [UInt8.ofNat (240 + m / 262144), UInt8.ofNat (128 + m / 4096 % 64), UInt8.ofNat (128 + m / 64 % 64), UInt8.ofNat (128 + m % 64)] := by rw [row8, if_neg (by omega), if_neg (by omega), if_neg (by omega), Int.toNat_natCast]
        have hx := u8to (240 + m / 262144) (by omega)
        have hw := u8to (128 + m / 4096 % 64) (by omega)
        have hy := u8to (128 + m / 64 % 64) (by omega)
        have hz := u8to (128 + m % 64) (by omega)
        obtain ⟨lo, hi, hl, hlo, hhi⟩ : ∃ lo hi : Int, lead8 (240 + m / 262144) = (3, ((m / 262144 : Nat) : Int), lo, hi) ∧ lo ≤ ((128 + m / 4096 % 64 : Nat) : Int) ∧ ((128 + m / 4096 % 64 : Nat) : Int) ≤ hi := by
          unfold lead8
          rw [if_neg (by omega), if_neg (by omega), if_neg (by omega), if_neg (by omega), if_neg (by omega), if_neg (by omega)]
          split
          · exact ⟨144, 191, by simp only [Prod.mk.injEq, and_true, true_and]; omega, by omega, by omega⟩
          · split
            · exact ⟨128, 143, by simp only [Prod.mk.injEq, and_true, true_and]; omega, by omega, by omega⟩
            · exact ⟨128, 191, by simp only [Prod.mk.injEq, and_true, true_and]; omega, by omega, by omega⟩
        rw [hr, List.cons_append, List.cons_append, List.cons_append, List.singleton_append, first8_lead _ _ 3 _ _ _ (by rw [hx]; exact hl)]
        rw [go8, if_neg (by rw [hw]; omega), go8, if_neg (by rw [hy]; omega), go8, if_neg (by rw [hz]; omega), go8, hw, hy, hz]
        simp only [List.length_cons, List.length_nil, Prod.mk.injEq, and_true]
        omega
theorem first8_say (c : UInt8) (t : Bs) :
    (∃ n u, scalar n = true ∧ c :: t = row8 n ++ u) ∨
    (∃ p u, c :: t = p ++ u ∧ 1 ≤ p.length ∧ p.length ≤ 3 ∧ first8 (p ++ u) = (65533, (p.length : Int), true) ∧ ∀ u', u = [] ∨ u' = [] ∨ u'.head? = u.head? → ∃ b, first8 (p ++ u') = (65533, (p.length : Int), b) ∧ (b = false → u' = [])) ∨
    ((c :: t).length ≤ 3 ∧ first8 (c :: t) = (65533, ((c :: t).length : Int), false)) := by
  by_cases h0 : (lead8 c.toNat).1 < 0
  · refine .inr (.inl ⟨[c], t, rfl, by simp, by simp, ?_, fun u' _ => ⟨true, ?_, fun h => by cases h⟩⟩)
    · rw [List.singleton_append, first8, if_pos h0]; rfl
    · rw [List.singleton_append, first8, if_pos h0]; rfl
  · have hm : (lead8 c.toNat).1.toNat ≤ 3 := by
      rcases lead8_bounds c.toNat with h | h
      · omega
      · omega
    rcases go8_say (lead8 c.toNat).1.toNat t 1 (lead8 c.toNat).2.1 (lead8 c.toNat).2.2.1 (lead8 c.toNat).2.2.2 with ⟨p, u, rfl, hp, h1, h2, _⟩ | ⟨p, b, u, rfl, hp, h1, h2⟩ | ⟨hl, h1⟩
    · obtain ⟨hs, hr⟩ := whole8 c p h0 hp h1 h2
      exact .inl ⟨_, u, hs, by rw [hr]; rfl⟩
    · refine .inr (.inl ⟨c :: p, b :: u, rfl, by simp, by simp; omega, ?_, fun u' hu' => ?_⟩)
      · rw [List.cons_append, first8, if_neg h0, h1]
        simp only [List.length_cons, Prod.mk.injEq, and_true, true_and]
        omega
      · rcases hu' with hu' | rfl | hu'
        · cases hu'
        · refine ⟨false, ?_, fun _ => rfl⟩
          rw [List.append_nil, first8, if_neg h0, h2]
          simp only [List.length_cons, Prod.mk.injEq, and_true, true_and]
          omega
        · cases u' with
          | nil => cases hu'
          | cons b' u' =>
            simp only [List.head?_cons, Option.some.injEq] at hu'
            subst hu'
            refine ⟨true, ?_, fun h => by cases h⟩
            rw [List.cons_append, first8, if_neg h0, h1]
            simp only [List.length_cons, Prod.mk.injEq, and_true, true_and]
            omega
    · refine .inr (.inr ⟨by simp only [List.length_cons]; omega, ?_⟩)
      rw [first8, if_neg h0, h1]
      simp only [List.length_cons, Prod.mk.injEq, and_true, true_and]
      omega
theorem told8_row (n : Int) (h : scalar n = true) (u : Bs) : told8 (row8 n ++ u) = (n :: (told8 u).1, (told8 u).2) := by
  have hf := first8_row n h u
  obtain ⟨c, t, hc⟩ := row8_cons n
  rw [hc, List.cons_append] at hf ⊢
  rw [told8_ok c (t ++ u) (by rw [hf]), hf]
  rw [Int.toNat_natCast, ← List.cons_append, List.drop_left]
theorem all8_row (n : Int) (h : scalar n = true) (u : Bs) : all8 (row8 n ++ u) = n :: all8 u := by
  rw [all8, told8_row n h, all8]
  split <;> rfl
theorem all8_nil : all8 [] = [] := rfl
theorem all8_wait (s : Bs) (k : Int) (hs : s ≠ []) (h : first8 s = (65533, k, false)) : told8 s = ([], s) ∧ all8 s = [65533] := by
  cases s with
  | nil => exact absurd rfl hs
  | cons c t =>
    have h1 := told8_no c t (by rw [h])
    exact ⟨h1, by rw [all8, h1, if_neg (by simp)]; rfl⟩
theorem all8_bad (p u : Bs) (hp : 1 ≤ p.length) (h : first8 (p ++ u) = (65533, (p.length : Int), true)) : told8 (p ++ u) = (65533 :: (told8 u).1, (told8 u).2) ∧ all8 (p ++ u) = 65533 :: all8 u := by
  cases p with
  | nil => simp at hp
  | cons c t =>
    have h1 : told8 (c :: t ++ u) = (65533 :: (told8 u).1, (told8 u).2) := by
      rw [List.cons_append] at h ⊢
      rw [told8_ok c (t ++ u) (by rw [h]), h]
      rw [Int.toNat_natCast, ← List.cons_append, List.drop_left]
    refine ⟨h1, ?_⟩
    rw [all8, h1, all8]
    split <;> rfl
theorem all8_say (c : UInt8) (t : Bs) :
    (∃ n u, scalar n = true ∧ c :: t = row8 n ++ u ∧ all8 (c :: t) = n :: all8 u) ∨
    (∃ p u, c :: t = p ++ u ∧ 1 ≤ p.length ∧ p.length ≤ 3 ∧ told8 (c :: t) = (65533 :: (told8 u).1, (told8 u).2) ∧ all8 (c :: t) = 65533 :: all8 u ∧ ∀ u', u = [] ∨ u' = [] ∨ u'.head? = u.head? → all8 (p ++ u') = 65533 :: all8 u') ∨
    ((c :: t).length ≤ 3 ∧ told8 (c :: t) = ([], c :: t) ∧ all8 (c :: t) = [65533]) := by
  rcases first8_say c t with ⟨n, u, hn, hu⟩ | ⟨p, u, hu, hp, hp3, hf, hall⟩ | ⟨hl, hf⟩
  · exact .inl ⟨n, u, hn, hu, by rw [hu, all8_row n hn]⟩
  · refine .inr (.inl ⟨p, u, hu, hp, hp3, by rw [hu]; exact (all8_bad p u hp hf).1, by rw [hu]; exact (all8_bad p u hp hf).2, fun u' hu' => ?_⟩)
    obtain ⟨b, h1, h2⟩ := hall u' hu'
    cases b with
    | true => exact (all8_bad p u' hp h1).2
    | false =>
      obtain rfl := h2 rfl
      rw [List.append_nil] at h1 ⊢
      rw [(all8_wait p _ (by intro h; rw [h] at hp; simp at hp) h1).2, all8_nil]
  · exact .inr (.inr ⟨hl, (all8_wait _ _ (by simp) hf).1, (all8_wait _ _ (by simp) hf).2⟩)
theorem row8_len (n : Int) : 1 ≤ (row8 n).length ∧ (row8 n).length ≤ 4 := by unfold row8; (repeat' split) <;> simp
/-- What is encoded is decoded as it was. -/
theorem all8_bytes : ∀ l : List Int, (∀ n ∈ l, scalar n = true) → all8 (bytes8 l) = l
  | [], _ => rfl
  | n :: l, h => by
    have : bytes8 (n :: l) = row8 n ++ bytes8 l := rfl
    rw [this, all8_row n (h n (by simp)), all8_bytes l (fun x hx => h x (by simp [hx]))]
/-- What is decoded without a Bad is encoded as it was. -/
theorem bytes8_all : ∀ (k : Nat) (s : Bs), s.length ≤ k → 65533 ∉ all8 s → bytes8 (all8 s) = s
  | _, [], _, _ => rfl
  | 0, _ :: _, h, _ => by simp at h
  | k + 1, c :: t, h, hb => by
    rcases all8_say c t with ⟨n, u, hn, hu, ha⟩ | ⟨p, u, _, _, _, _, ha, _⟩ | ⟨_, _, ha⟩
    · rw [ha] at hb ⊢
      have hl := row8_len n
      have hul : u.length ≤ k := by
        have := congrArg List.length hu
        rw [List.length_append] at this
        omega
      have : bytes8 (n :: all8 u) = row8 n ++ bytes8 (all8 u) := rfl
      rw [this, bytes8_all k u hul (fun h => hb (by simp [h])), hu]
    · rw [ha] at hb; simp at hb
    · rw [ha] at hb; simp at hb
theorem all8_many : ∀ (k : Nat) (s : Bs), s.length ≤ k → (all8 s).length ≤ s.length ∧ s.length ≤ 4 * (all8 s).length ∧ ∀ n ∈ all8 s, scalar n = true
  | _, [], _ => by simp [all8_nil]
  | 0, _ :: _, h => by simp at h
  | k + 1, c :: t, h => by
    rcases all8_say c t with ⟨n, u, hn, hu, ha⟩ | ⟨p, u, hu, hp, hp3, _, ha, _⟩ | ⟨hl, _, ha⟩
    · have hl := row8_len n
      have hul := congrArg List.length hu
      rw [List.length_append] at hul
      obtain ⟨h1, h2, h3⟩ := all8_many k u (by omega)
      rw [ha]
      refine ⟨by rw [List.length_cons (a := n)]; omega, by rw [List.length_cons (a := n)]; omega, fun x hx => ?_⟩
      rcases List.mem_cons.1 hx with rfl | hx
      · exact hn
      · exact h3 x hx
    · have hul := congrArg List.length hu
      rw [List.length_append] at hul
      obtain ⟨h1, h2, h3⟩ := all8_many k u (by omega)
      rw [ha]
      refine ⟨by rw [List.length_cons (a := 65533)]; omega, by rw [List.length_cons (a := 65533)]; omega, fun x hx => ?_⟩
      rcases List.mem_cons.1 hx with rfl | hx
      · rfl
      · exact h3 x hx
    · rw [ha]
      refine ⟨by simp, by simp only [List.length_cons, List.length_nil] at hl ⊢; omega, fun x hx => ?_⟩
      rw [List.mem_singleton] at hx
      subst hx
      rfl
/-- Where nothing is left a text may be cut. -/
theorem told8_cut : ∀ (k : Nat) (s : Bs), s.length ≤ k → ∃ a, s = a ++ (told8 s).2 ∧ (told8 s).2.length ≤ 3 ∧ all8 a = (told8 s).1 ∧ (∀ t, all8 (s ++ t) = (told8 s).1 ++ all8 ((told8 s).2 ++ t)) ∧ ((told8 s).2 ≠ [] → all8 (told8 s).2 = [65533])
  | _, [], _ => ⟨[], by simp [told8_nil], by simp [told8_nil], rfl, fun t => by simp [told8_nil], fun h => absurd rfl h⟩
  | 0, _ :: _, h => by simp at h
  | k + 1, c :: t, h => by
    rcases all8_say c t with ⟨n, u, hn, hu, ha⟩ | ⟨p, u, hu, hp, hp3, ht, ha, hall⟩ | ⟨hl, ht, ha⟩
    · have hl := row8_len n
      have hul := congrArg List.length hu
      rw [List.length_append] at hul
      obtain ⟨a, h1, h2, h3, h4, h5⟩ := told8_cut k u (by omega)
      have ht : told8 (c :: t) = (n :: (told8 u).1, (told8 u).2) := by rw [hu, told8_row n hn]
      rw [ht]
      refine ⟨row8 n ++ a, ?_, h2, ?_, fun t' => ?_, h5⟩
      · rw [List.append_assoc, ← h1]; exact hu
      · rw [all8_row n hn, h3]
      · rw [hu, List.append_assoc, all8_row n hn, h4]; rfl
    · have hul := congrArg List.length hu
      rw [List.length_append] at hul
      obtain ⟨a, h1, h2, h3, h4, h5⟩ := told8_cut k u (by omega)
      rw [ht]
      refine ⟨p ++ a, ?_, h2, ?_, fun t' => ?_, h5⟩
      · rw [List.append_assoc, ← h1]; exact hu
      · rw [hall a, h3]
        cases a with
        | nil => exact .inr (.inl rfl)
        | cons x y => rw [h1]; exact .inr (.inr rfl)
      · rw [hu, List.append_assoc, hall (u ++ t'), h4]
        · rfl
        · cases u with
          | nil => exact .inl rfl
          | cons x y => exact .inr (.inr rfl)
    · rw [ht]
      exact ⟨[], rfl, hl, rfl, fun t' => rfl, fun _ => ha⟩
end Go.Proofs.Ytcgdecpjlggekaa.M

/-
  UTF-8: the document's way: is a row of bytes the beginning of some scalar's?
-/
namespace Go.Proofs.Ytcgdecpjlggekaa.M
open Go

def cont8 (b : UInt8) : Bool := decide (128 ≤ b.toNat ∧ b.toNat ≤ 191)
/-- Is it the beginning of a sequence (whole or not)? -/
def ok8 (c : UInt8) (p : Bs) : Bool :=
  decide (0 ≤ (lead8 c.toNat).1) && decide ((p.length : Int) ≤ (lead8 c.toNat).1) && p.all cont8 && (match p with | [] => true | b :: _ => decide ((lead8 c.toNat).2.2.1 ≤ (b.toNat : Int) ∧ (b.toNat : Int) ≤ (lead8 c.toNat).2.2.2))
/-- How long the document takes a sequence to be; 0: it is none. -/
def len8 (c : Nat) : Nat := if 194 ≤ c ∧ c ≤ 223 then 2 else if 224 ≤ c ∧ c ≤ 239 then 3 else if 240 ≤ c ∧ c ≤ 244 then 4 else 0
def acc8 (c : UInt8) (p : Bs) : Nat := p.foldl (fun n b => 64 * n + b.toNat % 64) (c.toNat % (256 / 2 ^ (len8 c.toNat + 1)))
def least8 (n : Nat) : Nat → Nat
  | 0 => n
  | k + 1 => 64 * least8 n k
def most8 (n : Nat) : Nat → Nat
  | 0 => n
  | k + 1 => 64 * most8 n k + 63
def lowest8 (a : Nat) : Nat := if a = 2 then 128 else if a = 3 then 2048 else if a = 4 then 65536 else 0
def fits8 (c : UInt8) (p : Bs) : Bool :=
  decide (lowest8 (len8 c.toNat) ≤ most8 (acc8 c p) (len8 c.toNat - (p.length + 1))) && decide (least8 (acc8 c p) (len8 c.toNat - (p.length + 1)) ≤ 1114111) && !(decide (55296 ≤ least8 (acc8 c p) (len8 c.toNat - (p.length + 1))) && decide (most8 (acc8 c p) (len8 c.toNat - (p.length + 1)) ≤ 57343))
theorem lead8_class (c : Nat) (h : len8 c ≠ 0) : ∃ v lo hi : Int, lead8 c = ((len8 c : Int) - 1, v, lo, hi) ∧
    ((194 ≤ c ∧ c ≤ 223 ∧ len8 c = 2 ∧ lo = 128 ∧ hi = 191) ∨ (c = 224 ∧ len8 c = 3 ∧ lo = 160 ∧ hi = 191) ∨ (c = 237 ∧ len8 c = 3 ∧ lo = 128 ∧ hi = 159) ∨ (225 ≤ c ∧ c ≤ 239 ∧ c ≠ 237 ∧ len8 c = 3 ∧ lo = 128 ∧ hi = 191) ∨
      (c = 240 ∧ len8 c = 4 ∧ lo = 144 ∧ hi = 191) ∨ (c = 244 ∧ len8 c = 4 ∧ lo = 128 ∧ hi = 143) ∨ (241 ≤ c ∧ c ≤ 243 ∧ len8 c = 4 ∧ lo = 128 ∧ hi = 191)) := by
  have hlen : (194 ≤ c ∧ c ≤ 223 ∧ len8 c = 2) ∨ (224 ≤ c ∧ c ≤ 239 ∧ len8 c = 3) ∨ (240 ≤ c ∧ c ≤ 244 ∧ len8 c = 4) := by
    unfold len8 at h ⊢
    by_cases g1 : 194 ≤ c ∧ c ≤ 223
    · rw [if_pos g1]; omega
    · rw [if_neg g1] at h ⊢
      by_cases g2 : 224 ≤ c ∧ c ≤ 239
      · rw [if_pos g2]; omega
      · rw [if_neg g2] at h ⊢
        by_cases g3 : 240 ≤ c ∧ c ≤ 244
        · rw [if_pos g3]; omega
        · rw [if_neg g3] at h; exact absurd rfl h
  rcases hlen with ⟨h1, h2, h3⟩ | ⟨h1, h2, h3⟩ | ⟨h1, h2, h3⟩
  · exact ⟨_, _, _, by rw [h3, lead8, if_neg (by omega), if_neg (by omega), if_pos (by omega)]; rfl, .inl ⟨h1, h2, h3, rfl, rfl⟩⟩
  · by_cases e1 : c = 224
    · exact ⟨_, _, _, by rw [h3, lead8, if_neg (by omega), if_neg (by omega), if_neg (by omega), if_pos e1]; rfl, .inr (.inl ⟨e1, h3, rfl, rfl⟩)⟩
    · by_cases e2 : c = 237
      · exact ⟨_, _, _, by rw [h3, lead8, if_neg (by omega), if_neg (by omega), if_neg (by omega), if_neg e1, if_pos e2]; rfl, .inr (.inr (.inl ⟨e2, h3, rfl, rfl⟩))⟩
      · exact ⟨_, _, _, by rw [h3, lead8, if_neg (by omega), if_neg (by omega), if_neg (by omega), if_neg e1, if_neg e2, if_pos (by omega)]; rfl, .inr (.inr (.inr (.inl ⟨by omega, h2, e2, h3, rfl, rfl⟩)))⟩
  · by_cases e1 : c = 240
    · exact ⟨_, _, _, by rw [h3, lead8, if_neg (by omega), if_neg (by omega), if_neg (by omega), if_neg (by omega), if_neg (by omega), if_neg (by omega), if_pos e1]; rfl, .inr (.inr (.inr (.inr (.inl ⟨e1, h3, rfl, rfl⟩))))⟩
    · by_cases e2 : c = 244
      · exact ⟨_, _, _, by rw [h3, lead8, if_neg (by omega), if_neg (by omega), if_neg (by omega), if_neg (by omega), if_neg (by omega), if_neg (by omega), if_neg e1, if_pos e2]; rfl, .inr (.inr (.inr (.inr (.inr (.inl ⟨e2, h3, rfl, rfl⟩)))))⟩
      · exact ⟨_, _, _, by rw [h3, lead8, if_neg (by omega), if_neg (by omega), if_neg (by omega), if_neg (by omega), if_neg (by omega), if_neg (by omega), if_neg e1, if_neg e2]; rfl, .inr (.inr (.inr (.inr (.inr (.inr ⟨by omega, by omega, h3, rfl, rfl⟩)))))⟩
set_option maxHeartbeats 4000000 in
theorem fits8_ok (c : UInt8) (p : Bs) (h1 : p ≠ []) (h2 : p.length + 1 ≤ len8 c.toNat) (h3 : p.all cont8 = true) : fits8 c p = ok8 c p := by
  obtain ⟨v, lo, hi, hl, hcl⟩ := lead8_class c.toNat (by omega)
  have hsum : ok8 c p = true ↔ ∀ b t, p = b :: t → lo ≤ (b.toNat : Int) ∧ (b.toNat : Int) ≤ hi := by
    cases p with
    | nil => exact absurd rfl h1
    | cons b t =>
      have q1 : decide (0 ≤ (lead8 c.toNat).1) = true := by rw [hl, decide_eq_true_eq]; show (0 : Int) ≤ (len8 c.toNat : Int) - 1; omega
      have q2 : decide (((b :: t).length : Int) ≤ (lead8 c.toNat).1) = true := by rw [hl, decide_eq_true_eq]; show ((b :: t).length : Int) ≤ (len8 c.toNat : Int) - 1; omega
      rw [ok8, q1, q2, h3, hl]
      simp only [Bool.true_and]
      rw [decide_eq_true_eq]
      constructor
      · rintro h b' t' hh
        injection hh with hb ht
        subst hb
        exact h
      · intro h
        exact h b t rfl
  rw [Bool.eq_iff_iff, hsum]
  have hall : ∀ b ∈ p, 128 ≤ b.toNat ∧ b.toNat ≤ 191 := fun b hb => by
    have := List.all_eq_true.1 h3 b hb
    simpa [cont8] using this
  simp only [fits8, Bool.and_eq_true, decide_eq_true_eq, Bool.not_eq_true', Bool.and_eq_false_iff, decide_eq_false_iff_not]
  rcases hcl with ⟨g1, g2, g3, rfl, rfl⟩ | ⟨g1, g3, rfl, rfl⟩ | ⟨g1, g3, rfl, rfl⟩ | ⟨g1, g2, g4, g3, rfl, rfl⟩ | ⟨g1, g3, rfl, rfl⟩ | ⟨g1, g3, rfl, rfl⟩ | ⟨g1, g2, g3, rfl, rfl⟩
  all_goals
    rw [g3] at h2
    match p, h1, h2, hall with
    | [], h1, _, _ => exact absurd rfl h1
    | b :: d :: e :: f :: t, _, h2, _ => simp only [List.length_cons] at h2; omega
    | [b], _, h2, hall =>
      have hb := hall b (by simp)
      simp only [List.length_cons, List.length_nil] at h2
      simp [g3, acc8, lowest8, most8, least8] at h2 ⊢
      omega
    | [b, d], _, h2, hall =>
      have hb := hall b (by simp)
      have hd := hall d (by simp)
      simp only [List.length_cons, List.length_nil] at h2
      simp [g3, acc8, lowest8, most8, least8] at h2 ⊢
      try omega
    | [b, d, e], _, h2, hall =>
      have hb := hall b (by simp)
      have hd := hall d (by simp)
      have he := hall e (by simp)
      simp only [List.length_cons, List.length_nil] at h2
      simp [g3, acc8, lowest8, most8, least8] at h2 ⊢
      try omega
theorem len8_le (c : Nat) : len8 c ≤ 4 := by unfold len8; (repeat' split) <;> omega
theorem ok8_low (c : UInt8) (p : Bs) (h : c.toNat < 128) : ok8 c p = decide (p.length = 0) := by
  have hl : lead8 c.toNat = (0, (c.toNat : Int), 0, 0) := by rw [lead8, if_pos h]
  cases p with
  | nil => simp [ok8, hl]
  | cons b t => simp [ok8, hl]; omega
theorem ok8_none (c : UInt8) (p : Bs) (h : 128 ≤ c.toNat) (h2 : len8 c.toNat = 0) : ok8 c p = false := by
  have hl : (lead8 c.toNat).1 = -1 := by
    unfold len8 at h2
    rw [lead8, if_neg (by omega), if_pos]
    have := c.toNat_lt
    (repeat' split at h2) <;> omega
  simp [ok8, hl]
theorem ok8_long (c : UInt8) (p : Bs) (h : len8 c.toNat ≠ 0) (h2 : len8 c.toNat < p.length + 1) : ok8 c p = false := by
  obtain ⟨v, lo, hi, hl, _⟩ := lead8_class c.toNat h
  have : decide ((p.length : Int) ≤ (lead8 c.toNat).1) = false := by rw [hl, decide_eq_false_iff_not]; show ¬ ((p.length : Int) ≤ (len8 c.toNat : Int) - 1); omega
  unfold ok8
  rw [this]
  simp
theorem ok8_cont (c : UInt8) (p : Bs) (h : p.all cont8 = false) : ok8 c p = false := by
  unfold ok8
  rw [h]
  simp
theorem ok8_one (c : UInt8) (h : len8 c.toNat ≠ 0) : ok8 c [] = true := by
  obtain ⟨v, lo, hi, hl, _⟩ := lead8_class c.toNat h
  simp [ok8, hl]
  omega
theorem lead8_len (c : Nat) (h : len8 c ≠ 0) : (lead8 c).1 = (len8 c : Int) - 1 := by
  obtain ⟨v, lo, hi, hl, _⟩ := lead8_class c h
  rw [hl]
theorem fold8_lt : ∀ (p : Bs) (n B : Nat), n < B → p.foldl (fun n b => 64 * n + b.toNat % 64) n < B * 64 ^ p.length
  | [], n, B, h => by simpa using h
  | b :: t, n, B, h => by
    have := fold8_lt t (64 * n + b.toNat % 64) (64 * B) (by omega)
    rw [List.foldl_cons, List.length_cons, Nat.pow_succ]
    have e : B * (64 ^ t.length * 64) = 64 * B * 64 ^ t.length := by rw [Nat.mul_comm (64 ^ t.length) 64, ← Nat.mul_assoc, Nat.mul_comm B 64]
    omega
theorem acc8_lt (c : UInt8) (p : Bs) (h : p.length ≤ 3) : acc8 c p < 67108864 := by
  have h1 := fold8_lt p (c.toNat % (256 / 2 ^ (len8 c.toNat + 1))) 256 (by
    have := c.toNat_lt
    exact Nat.lt_of_le_of_lt (Nat.mod_le _ _) this)
  have h2 : 64 ^ p.length ≤ 64 ^ 3 := Nat.pow_le_pow_right (by decide) h
  unfold acc8
  omega
theorem acc8_snoc (c : UInt8) (p : Bs) (k : Nat) (b : UInt8) (h : p[k]? = some b) : acc8 c (p.take (k + 1)) = 64 * acc8 c (p.take k) + b.toNat % 64 := by
  rw [List.take_add_one, h]
  simp [acc8, List.foldl_append]
theorem most8_lt (n : Nat) : ∀ k, least8 n k ≤ most8 n k ∧ most8 n k + 1 = (n + 1) * 64 ^ k
  | 0 => by simp [most8, least8]
  | k + 1 => by
    obtain ⟨h1, h2⟩ := most8_lt n k
    have e : (n + 1) * 64 ^ (k + 1) = 64 * ((n + 1) * 64 ^ k) := by rw [Nat.pow_succ, Nat.mul_comm (64 ^ k) 64, ← Nat.mul_assoc, ← Nat.mul_assoc, Nat.mul_comm (n + 1) 64]
    simp only [most8, least8]
    omega
theorem most8_le (n k : Nat) (h : n < 67108864) (hk : k ≤ 3) : least8 n k ≤ most8 n k ∧ most8 n k < 17592186044416 := by
  obtain ⟨h1, h2⟩ := most8_lt n k
  have h3 : (n + 1) * 64 ^ k ≤ 67108864 * 64 ^ 3 := Nat.mul_le_mul h (Nat.pow_le_pow_right (by decide) hk)
  omega
end Go.Proofs.Ytcgdecpjlggekaa.M

/-
  UTF-8: the document's inner loop tells the same as the program's first.
-/
namespace Go.Proofs.Ytcgdecpjlggekaa.M
open Go

theorem go8_at : ∀ (m : Nat) (p : Bs) (i n lo hi : Int), p.length ≤ m → ((go8 m p i n lo hi).2.1 = i + p.length ↔ (∀ b t, p = b :: t → lo ≤ (b.toNat : Int) ∧ (b.toNat : Int) ≤ hi) ∧ ∀ b ∈ p.tail, 128 ≤ b.toNat ∧ b.toNat ≤ 191)
  | 0, p, i, n, lo, hi, h => by
    have : p = [] := List.eq_nil_of_length_eq_zero (by omega)
    subst this
    simp [go8]
  | m + 1, [], i, n, lo, hi, _ => by simp [go8]
  | m + 1, b :: t, i, n, lo, hi, h => by
    have hlen : t.length ≤ m := by simpa using h
    by_cases hb : (b.toNat : Int) < lo ∨ hi < (b.toNat : Int)
    · rw [go8, if_pos hb]
      constructor
      · intro hh
        simp only [List.length_cons] at hh
        omega
      · rintro ⟨hh, _⟩
        have := hh b t rfl
        omega
    · have ih := go8_at m t (i + 1) (n * 64 + (b.toNat : Int) % 64) 128 191 hlen
      rw [go8, if_neg hb]
      have e : i + ((b :: t).length : Int) = i + 1 + (t.length : Int) := by simp only [List.length_cons]; omega
      rw [e, ih]
      constructor
      · rintro ⟨h1, h2⟩
        refine ⟨fun b' t' hh => ?_, fun b' hb' => ?_⟩
        · injection hh with h3 h4
          subst h3
          omega
        · rw [List.tail_cons] at hb'
          cases t with
          | nil => cases hb'
          | cons x y =>
            rcases List.mem_cons.1 hb' with rfl | hb'
            · have := h1 b' y rfl; omega
            · exact h2 b' hb'
      · rintro ⟨h1, h2⟩
        rw [List.tail_cons] at h2
        exact ⟨fun b' t' hh => by have := h2 b' (by rw [hh]; simp); omega, fun b' hb' => h2 b' (List.mem_of_mem_tail hb')⟩
theorem go8_prefix : ∀ (m : Nat) (l : Bs) (i n lo hi : Int) (K : Nat), (go8 m l i n lo hi).2.1 = i + K → ∀ j, j ≤ K → (go8 m (l.take j) i n lo hi).2.1 = i + j
  | 0, l, i, n, lo, hi, K, h, j, hj => by
    simp only [go8] at h ⊢
    have : j = 0 := by omega
    subst this
    simp
  | m + 1, [], i, n, lo, hi, K, h, j, hj => by
    simp only [go8] at h
    have : j = 0 := by omega
    subst this
    simp [go8]
  | m + 1, b :: t, i, n, lo, hi, K, h, j, hj => by
    cases j with
    | zero => simp [go8]
    | succ j =>
      rw [List.take_succ_cons, go8]
      rw [go8] at h
      split at h
      · simp only at h; omega
      · rename_i hb
        rw [if_neg hb]
        have := go8_prefix m t (i + 1) _ 128 191 (K - 1) (by rw [h]; omega) j (by omega)
        rw [this]
        omega
theorem lead8_lohi (c : Nat) (h : 1 ≤ (lead8 c).1) : 128 ≤ (lead8 c).2.2.1 ∧ (lead8 c).2.2.2 ≤ 191 := by
  revert h
  unfold lead8
  (repeat' split) <;> intro h <;> simp at h ⊢
theorem ok8_first8 (c : UInt8) (p : Bs) (h0 : 0 ≤ (lead8 c.toNat).1) (h : (p.length : Int) ≤ (lead8 c.toNat).1) : ok8 c p = true ↔ (first8 (c :: p)).2.1 = p.length + 1 := by
  rw [first8, if_neg (by omega)]
  have hg := go8_at (lead8 c.toNat).1.toNat p 1 (lead8 c.toNat).2.1 (lead8 c.toNat).2.2.1 (lead8 c.toNat).2.2.2 (by omega)
  rw [Int.add_comm, hg]
  cases p with
  | nil => simp [ok8, h0]
  | cons b t =>
    have hl := lead8_lohi c.toNat (by simp only [List.length_cons] at h; omega)
    simp only [ok8, Bool.and_eq_true, decide_eq_true_eq, List.all_eq_true, List.tail_cons, List.mem_cons, forall_eq_or_imp, cont8]
    constructor
    · rintro ⟨⟨⟨_, _⟩, _, h2⟩, h3⟩
      refine ⟨fun b' t' hh => ?_, h2⟩
      injection hh with h4 h5
      subst h4
      exact h3
    · rintro ⟨h1, h2⟩
      have := h1 b t rfl
      exact ⟨⟨⟨h0, h⟩, by omega, h2⟩, this⟩
theorem go8_mono : ∀ (m : Nat) (l : Bs) (i n lo hi : Int) (j : Nat), j ≤ l.length → (go8 m (l.take j) i n lo hi).2.1 = i + j → i + j ≤ (go8 m l i n lo hi).2.1
  | 0, l, i, n, lo, hi, j, _, h => by simp only [go8] at h ⊢; omega
  | m + 1, [], i, n, lo, hi, j, hj, h => by
    simp at hj
    subst hj
    simp [go8]
  | m + 1, b :: t, i, n, lo, hi, j, hj, h => by
    cases j with
    | zero =>
      have := (go8_bounds (m + 1) (b :: t) i n lo hi).1
      simpa using this
    | succ j =>
      rw [List.take_succ_cons, go8] at h
      rw [go8]
      split at h
      · simp only at h; omega
      · rename_i hb
        rw [if_neg hb]
        have := go8_mono m t (i + 1) (n * 64 + (b.toNat : Int) % 64) 128 191 j (by simpa using hj) (by rw [h]; omega)
        omega
theorem first8_go (c : UInt8) (t : Bs) (h0 : 0 ≤ (lead8 c.toNat).1) : first8 (c :: t) = go8 (lead8 c.toNat).1.toNat t 1 (lead8 c.toNat).2.1 (lead8 c.toNat).2.2.1 (lead8 c.toNat).2.2.2 := by
  rw [first8, if_neg (by omega)]
/-- What stands ahead of the end is a beginning; what goes one further is none. -/
theorem inner_ok (c : UInt8) (t : Bs) (K j : Nat) (h0 : 0 ≤ (lead8 c.toNat).1) (hK : (first8 (c :: t)).2.1 = K) (hj : j + 1 ≤ K) (hl : (j : Int) ≤ (lead8 c.toNat).1) : ok8 c (t.take j) = true := by
  have hb := (first8_bounds c t).2
  rw [hK] at hb
  have hlen : (t.take j).length = j := by rw [List.length_take]; simp only [List.length_cons] at hb; omega
  rw [ok8_first8 c _ h0 (by rw [hlen]; exact hl), hlen, first8_go c _ h0]
  rw [first8_go c t h0] at hK
  rw [go8_prefix _ t 1 _ _ _ (K - 1) (by rw [hK]; omega) j (by omega)]
  omega
theorem inner_no (c : UInt8) (t : Bs) (K : Nat) (h0 : 0 ≤ (lead8 c.toNat).1) (hK : (first8 (c :: t)).2.1 = K) (hl : (K : Int) ≤ (lead8 c.toNat).1) (ht : K ≤ t.length) : ok8 c (t.take K) = false := by
  have hlen : (t.take K).length = K := by rw [List.length_take]; omega
  rw [← Bool.not_eq_true, ok8_first8 c _ h0 (by rw [hlen]; exact hl), hlen, first8_go c _ h0]
  rw [first8_go c t h0] at hK
  intro hh
  have := go8_mono _ t 1 (lead8 c.toNat).2.1 (lead8 c.toNat).2.2.1 (lead8 c.toNat).2.2.2 K ht (by rw [hh]; omega)
  omega
end Go.Proofs.Ytcgdecpjlggekaa.M

/-
  UTF-8: one round of the document's decoder, in all its ways.
-/
namespace Go.Proofs.Ytcgdecpjlggekaa.M
open Go

def val8 (c : UInt8) (p : Bs) : Int := if c.toNat < 128 then (c.toNat : Int) else (acc8 c p : Nat)
theorem lead8_val (c : Nat) (hc : c < 256) (h : 0 ≤ (lead8 c).1) : (c < 128 ∧ lead8 c = (0, (c : Int), 0, 0)) ∨ (128 ≤ c ∧ len8 c ≠ 0 ∧ (lead8 c).2.1 = ((c % (256 / 2 ^ (len8 c + 1)) : Nat) : Int)) := by
  by_cases h0 : c < 128
  · exact .inl ⟨h0, by rw [lead8, if_pos h0]⟩
  · refine .inr ⟨by omega, ?_⟩
    have hn : ¬ (c < 194 ∨ 244 < c) := by
      intro hh
      rw [lead8, if_neg h0, if_pos hh] at h
      exact absurd h (by decide)
    have h3 : len8 c ≠ 0 := by
      unfold len8
      (repeat' split) <;> omega
    refine ⟨h3, ?_⟩
    obtain ⟨v, lo, hi, hl, hcl⟩ := lead8_class c h3
    unfold lead8
    rcases hcl with ⟨g1, g2, g3, _⟩ | ⟨g1, g3, _⟩ | ⟨g1, g3, _⟩ | ⟨g1, g2, g4, g3, _⟩ | ⟨g1, g3, _⟩ | ⟨g1, g3, _⟩ | ⟨g1, g2, g3, _⟩
    all_goals
      rw [g3]
      (repeat' split) <;> first | (exfalso; omega) | (simp; done) | (simp; omega)
theorem fold8_int : ∀ (p : Bs) (n : Nat), p.foldl (fun n b => n * 64 + (b.toNat : Int) % 64) (n : Int) = ((p.foldl (fun n b => 64 * n + b.toNat % 64) n : Nat) : Int)
  | [], n => rfl
  | b :: t, n => by
    rw [List.foldl_cons, List.foldl_cons, ← fold8_int t]
    congr 1
    omega
theorem go8_whole : ∀ (m : Nat) (l : Bs) (i n lo hi : Int), (go8 m l i n lo hi).2.2 = true → (go8 m l i n lo hi).2.1 = i + m → m ≤ l.length ∧ (go8 m l i n lo hi).1 = (l.take m).foldl (fun n b => n * 64 + (b.toNat : Int) % 64) n
  | 0, l, i, n, lo, hi, _, _ => by simp [go8]
  | m + 1, [], i, n, lo, hi, h, _ => by simp [go8] at h
  | m + 1, b :: t, i, n, lo, hi, h, h2 => by
    rw [go8] at h h2 ⊢
    split at h
    · rename_i hb
      rw [if_pos hb] at h2
      simp only at h2
      omega
    · rename_i hb
      rw [if_neg hb] at h2 ⊢
      obtain ⟨h3, h4⟩ := go8_whole m t (i + 1) _ 128 191 h (by rw [h2]; omega)
      exact ⟨by simp only [List.length_cons]; omega, by rw [h4, List.take_succ_cons, List.foldl_cons]⟩
/-- What a sequence that ends early tells. -/
theorem go8_early : ∀ (m : Nat) (l : Bs) (i n lo hi : Int), (∃ r, go8 m l i n lo hi = (r, i + m, true)) ∨ (∃ K : Nat, K < m ∧ K < l.length ∧ go8 m l i n lo hi = (65533, i + K, true)) ∨ (l.length < m ∧ go8 m l i n lo hi = (65533, i + l.length, false))
  | 0, l, i, n, lo, hi => .inl ⟨n, by simp [go8]⟩
  | m + 1, [], i, n, lo, hi => .inr (.inr ⟨by simp, by simp [go8]⟩)
  | m + 1, b :: t, i, n, lo, hi => by
    by_cases hb : (b.toNat : Int) < lo ∨ hi < (b.toNat : Int)
    · exact .inr (.inl ⟨0, by omega, by simp, by rw [go8, if_pos hb]; simp⟩)
    · rw [go8, if_neg hb]
      rcases go8_early m t (i + 1) (n * 64 + (b.toNat : Int) % 64) 128 191 with ⟨r, h⟩ | ⟨K, h1, h2, h⟩ | ⟨h1, h⟩
      · exact .inl ⟨r, by rw [h]; simp only [Prod.mk.injEq, and_true, true_and]; omega⟩
      · exact .inr (.inl ⟨K + 1, by omega, by simpa using h2, by rw [h]; simp only [Prod.mk.injEq, and_true, true_and]; omega⟩)
      · exact .inr (.inr ⟨by simpa using h1, by rw [h]; simp only [Prod.mk.injEq, and_true, true_and, List.length_cons]; omega⟩)
theorem round8 (c : UInt8) (t : Bs) :
    ((lead8 c.toNat).1 = -1 ∧ ok8 c [] = false ∧ first8 (c :: t) = (65533, 1, true)) ∨
    (∃ m K : Nat, (lead8 c.toNat).1 = m ∧ 1 ≤ K ∧ K ≤ m + 1 ∧ K ≤ t.length + 1 ∧ m ≤ 3 ∧ (∀ j, j < K → ok8 c (t.take j) = true) ∧
      ((K = m + 1 ∧ first8 (c :: t) = (val8 c (t.take m), ((m + 1 : Nat) : Int), true)) ∨
       (K ≤ m ∧ K < t.length + 1 ∧ ok8 c (t.take K) = false ∧ first8 (c :: t) = (65533, (K : Int), true)) ∨
       (K ≤ m ∧ K = t.length + 1 ∧ first8 (c :: t) = (65533, (K : Int), false)))) := by
  rcases lead8_bounds c.toNat with h | ⟨h0, h3, _⟩
  · exact .inl ⟨h, by simp [ok8, h], by rw [first8, if_pos (by rw [h]; decide)]⟩
  · obtain ⟨m, hm⟩ := Int.eq_ofNat_of_zero_le h0
    have hgo := first8_go c t h0
    have hlen := (first8_bounds c t).2
    have key : ∀ K : Nat, (first8 (c :: t)).2.1 = K → K ≤ m + 1 → ∀ j, j < K → ok8 c (t.take j) = true := fun K hK hle j hj =>
      inner_ok c t K j h0 hK (by omega) (by rw [hm]; omega)
    have hmt : (lead8 c.toNat).1.toNat = m := by rw [hm]; simp
    rw [hmt] at hgo
    rcases go8_early m t 1 (lead8 c.toNat).2.1 (lead8 c.toNat).2.2.1 (lead8 c.toNat).2.2.2 with ⟨r, hr⟩ | ⟨K, h1, h2, hr⟩ | ⟨h1, hr⟩
    · have hf : first8 (c :: t) = (r, ((m + 1 : Nat) : Int), true) := by rw [hgo, hr]; simp only [Prod.mk.injEq, and_true, true_and]; omega
      obtain ⟨hw1, hw2⟩ := go8_whole m t 1 _ _ _ (by rw [hr]) (by rw [hr])
      rw [hr] at hw2
      simp only at hw2
      refine .inr ⟨m, m + 1, hm, by omega, by omega, by omega, by omega, key _ (by rw [hf]) (by omega), .inl ⟨rfl, ?_⟩⟩
      rw [hf, hw2]
      congr 1
      rcases lead8_val c.toNat c.toNat_lt h0 with ⟨g1, g2⟩ | ⟨g1, g2, g3⟩
      · have hm0 : m = 0 := by rw [g2] at hm; simp only at hm; omega
        subst hm0
        rw [val8, if_pos g1, g2]
        rfl
      · rw [val8, if_neg (by omega), g3, fold8_int]
        rfl
    · have hf : first8 (c :: t) = (65533, ((K + 1 : Nat) : Int), true) := by rw [hgo, hr]; simp only [Prod.mk.injEq, and_true, true_and]; omega
      exact .inr ⟨m, K + 1, hm, by omega, by omega, by omega, by omega, key _ (by rw [hf]) (by omega), .inr (.inl ⟨by omega, by omega, inner_no c t (K + 1) h0 (by rw [hf]) (by rw [hm]; omega) (by omega), hf⟩)⟩
    · have hf : first8 (c :: t) = (65533, ((t.length + 1 : Nat) : Int), false) := by rw [hgo, hr]; simp only [Prod.mk.injEq, and_true, true_and]; omega
      exact .inr ⟨m, t.length + 1, hm, by omega, by omega, by omega, by omega, key _ (by rw [hf]) (by omega), .inr (.inr ⟨by omega, rfl, hf⟩)⟩
end Go.Proofs.Ytcgdecpjlggekaa.M

/-
  Texts of the proof, laid together: RUtf8d, RStream, RStream2, Up. No condition of its own.
-/
import Derived.Test.YtcgdecpjlggekaaG4
import Derived.Test.YtcgdecpjlggekaaG2
import Derived.Test.YtcgdecpjlggekaaG3
import Derived.Deep.Cut
import Derived.Deep.CutRange
import Derived.Deep.CutBlock
import Derived.Test.YtcgdecpjlggekaaG1
import Derived.BigQuiet

/-
  The document's answers on UTF-8: DecodeUtf8.
-/
namespace Go.Proofs.Ytcgdecpjlggekaa
open Go.RowKit
set_option maxRecDepth 1000000

theorem valueOf_any (s : ByteArray) (c : UInt8) (p : List UInt8) (hs : s.data.toList = c :: p) (m : Nat) (hm : (M.lead8 c.toNat).1 = m) (hp : p.length = m) (w : World) : Calls Try.prog 34 #[.string s] w fun e w' => e = .returned (.int .i64 (M.val8 c p)) ∧ Bel w w' := by
  have hc := c.toNat_lt
  rcases M.lead8_val c.toNat hc (by omega) with ⟨h1, h2⟩ | ⟨h1, h2, _⟩
  · have hm0 : m = 0 := by rw [h2] at hm; simp only at hm; omega
    subst hm0
    have hp0 : p = [] := List.eq_nil_of_length_eq_zero hp
    subst hp0
    rw [M.val8, if_pos h1]
    exact valueOf_1 s c hs w
  · rw [M.val8, if_neg (by omega)]
    have hl := M.lead8_len c.toNat h2
    rcases (show M.len8 c.toNat = 2 ∨ M.len8 c.toNat = 3 ∨ M.len8 c.toNat = 4 by
      unfold M.len8 at h2 ⊢; (repeat' split) <;> simp_all) with h | h | h
    · exact valueOf_2 s c p hs h (by omega) w
    · exact valueOf_3 s c p hs h (by omega) w
    · exact valueOf_4 s c p hs h (by omega) w
theorem isBegun_yes (s : ByteArray) (c : UInt8) (p : List UInt8) (hs : s.data.toList = c :: p) (m : Nat) (hm : (M.lead8 c.toNat).1 = m) (h : M.ok8 c p = true) (w : World) : Calls Try.prog 20 #[.string s] w fun e w' => e = .returned (.tuple #[.int .i64 ((m : Int) + 1), .bool true]) ∧ Bel w w' := by
  refine (isBegun_any s c p hs w).mono ?_
  rintro e w' ⟨a, rfl, h2, hb⟩
  rw [h] at h2 ⊢
  rw [h2 rfl, hm]
  exact ⟨rfl, hb⟩
theorem isBegun_no (s : ByteArray) (c : UInt8) (p : List UInt8) (hs : s.data.toList = c :: p) (h : M.ok8 c p = false) (w : World) : Calls Try.prog 20 #[.string s] w fun e w' => ∃ a : Int, e = .returned (.tuple #[.int .i64 a, .bool false]) ∧ Bel w w' := by
  refine (isBegun_any s c p hs w).mono ?_
  rintro e w' ⟨a, rfl, _, hb⟩
  rw [h]
  exact ⟨a, rfl, hb⟩
theorem take_cons (s : ByteArray) (c : UInt8) (t : List UInt8) (hs : s.data.toList = c :: t) (j : Nat) : (s.extract 0 (j + 1)).data.toList = c :: t.take j := by
  rw [Lib.extract_data, List.drop_zero, Nat.sub_zero, hs, List.take_succ_cons]
theorem decodeUtf8_any (s : ByteArray) (hs : s.size ≤ 68719476735) (w : World) : Calls Try.prog 22 #[.string s] w fun e w' => ∃ v, e = .returned (.tuple #[v, .string ⟨(M.told8 s.data.toList).2.toArray⟩]) ∧ Own w.heap.size 3 w' v ((M.told8 s.data.toList).1.map (Value.int .i64)) ∧ Bel w w' := by
  go_enter Try.func22, Try.ntmps22
  go_wp2_with fail
  go_loopw [0, 4] (fun vs v wr => ∃ (s' : ByteArray) (xs : List Int), vs = .string s' ∧ xs.length + s'.size ≤ s.size ∧ Hid (M.told8 s.data.toList = (xs ++ (M.told8 s'.data.toList).1, (M.told8 s'.data.toList).2)) ∧ Own w.heap.size 3 wr v (xs.map (Value.int .i64)) ∧ Bel w wr) (fun vs _ _ => strLen vs)
  case atStart => exact ⟨s, [], rfl, by simp, Lib.hid (by simp), Own.nil _ _ _, Bel.refl _⟩
  case round =>
    obtain ⟨s', xs, rfl, hle, HT, hown, hb⟩ := hrel
    by_cases he : s'.size = 0
    · have e0 : s'.data.toList = [] := List.eq_nil_of_length_eq_zero (by rw [← Lib.size_eq]; exact he)
      have HF := Lib.hid (show M.told8 s.data.toList = (xs, []) by
        rw [HT.out, e0]; simp [M.told8_nil])
      have he2 : s'.size ≤ 0 := by omega
      clear he e0
      go_wp2_with fail
      go_ret2
      rw [HF.out]
      exact ⟨_, rfl, hown, hb⟩
    · have hpos : 0 < s'.size := by omega
      obtain ⟨c, t, hct⟩ := cons_of_pos s' hpos
      have hlen : s'.size = t.length + 1 := by rw [Lib.size_eq, hct]; rfl
      obtain ⟨wo, hwo⟩ : ∃ wo : World, wo = wr := ⟨_, rfl⟩
      rcases M.round8 c t with ⟨hm, hok, hf⟩ | ⟨m, K, hm, k1, k2, k3, m3, hyes, hend⟩
      · -- it begins none
        have HF := Lib.hid (show M.told8 s.data.toList = ((xs ++ [65533]) ++ (M.told8 (s'.extract 1 s'.size).data.toList).1, (M.told8 (s'.extract 1 s'.size).data.toList).2) by
          rw [HT.out, drop_str, hct, M.told8_ok c t (by rw [hf]), hf]; simp)
        have HC := Lib.hid (show (s'.extract 0 1).data.toList = c :: [] by rw [take_cons s' c t hct 0]; rfl)
        have HS := Lib.hid (drop_size s' 1)
        have HO := Lib.hid hok
        clear he hct hm hok hf hlen hwo
        go_wp2_with fail
        go_loopw [5, 6] (fun vn vd wr' => vn = .int .i64 0 ∧ vd = .bool false ∧ wr' = wr) (fun _ _ _ => 0)
        case atStart => exact ⟨rfl, rfl, rfl⟩
        case round =>
          obtain ⟨rfl, rfl, rfl⟩ := hrel
          go_wp2_with fail
          refine (isBegun_no _ c [] HC.out HO.out _).mono ?_
          rintro e w1 ⟨a, rfl, b1⟩
          have hown1 := hown.bel b1
          have hsz : w.heap.size ≤ w1.heap.size := (hb.trans b1).size
          have hb3 := hb.trans b1
          go_wp2_with (first | (at_builtin; refine wpList_app rfl (.tmp 37) (.tmp 38) 24 rfl elemInt (by decide) w.heap.size _ _ _ rfl rfl hown1 rfl (by simp; omega) (by first | exact Nat.le_refl _ | assumption | (have := hb.size; omega)) ?_; intro v' w1 hown' hb1))
          go_roundw
          case rel => exact ⟨_, xs ++ [65533], rfl, by rw [HS.out, List.length_append, List.length_singleton]; omega, HF, by rw [List.map_append]; exact hown', hb3.upto hb1 (Nat.le_refl _)⟩
          case measure => simp only [strLen, HS.out]; omega
      · have hmi : (m : Int) + 1 = ((m + 1 : Nat) : Int) := by omega
        rcases hend with ⟨rfl, hf⟩ | ⟨hKm, hKt, hno, hf⟩ | ⟨hKm, hKt, hf⟩
        · -- whole
          have HF := Lib.hid (show M.told8 s.data.toList = ((xs ++ [M.val8 c (t.take m)]) ++ (M.told8 (s'.extract (m + 1) s'.size).data.toList).1, (M.told8 (s'.extract (m + 1) s'.size).data.toList).2) by
            rw [HT.out, drop_str, hct, M.told8_ok c t (by rw [hf]), hf]; simp only [Int.toNat_natCast]; simp)
          have HS := Lib.hid (drop_size s' (m + 1))
          have HC := Lib.hid hct
          have HM := Lib.hid hm
          have HY := Lib.hid hyes
          have hlt : m + 1 ≤ s'.size := by omega
          have hml : (t.take m).length = m := by rw [List.length_take]; omega
          have HL := Lib.hid hml
          clear he hct hm hyes hf hlen hwo hmi hml
          go_wp2_with fail
          go_loopw [5, 6] (fun vn vd wr' => ∃ j : Nat, j ≤ m + 1 ∧ vn = .int .i64 j ∧ vd = .bool (decide (j = m + 1)) ∧ Bel wr wr') (fun vn _ _ => m + 1 - (intOf vn).toNat)
          case atStart => exact ⟨0, by omega, rfl, rfl, Bel.refl _⟩
          case round =>
            obtain ⟨j, hj, rfl, rfl, hbj⟩ := hrel
            by_cases hjm : j = m + 1
            · subst hjm
              have e1 : decide (m + 1 = m + 1) = true := by simp
              rw [e1]
              have hcast : ((m + 1 : Nat) : Int) = (m : Int) + 1 := by omega
              rw [hcast]
              have HV := Lib.hid (show (s'.extract 0 (m + 1)).data.toList = c :: t.take m from take_cons s' c t HC.out m)
              have hxl : xs.length < 68719476736 := by omega
              have hb2 := hb.trans hbj
              have hown2 := hown.bel hbj
              clear e1 hcast
              by_cases hq : m + 1 < s'.size
              all_goals
                go_wp2_with fail
                refine (valueOf_any _ c (t.take m) HV.out m HM.out HL.out _).mono ?_
                rintro e w2 ⟨rfl, b2⟩
                have hown3 := hown2.bel b2
                have hb3 := hb2.trans b2
                have hsz : w.heap.size ≤ w2.heap.size := hb3.size
                go_wp2_with (first | (at_builtin; refine wpList_app rfl (.tmp 42) (.tmp 47) 24 rfl elemInt (by decide) w.heap.size _ _ _ rfl rfl hown3 rfl (by simp; omega) (by first | exact Nat.le_refl _ | assumption | (have := hb.size; omega)) ?_; intro v' w1 hown' hb1))
                go_roundw
                case rel => exact ⟨_, xs ++ [M.val8 c (t.take m)], rfl, by rw [HS.out, List.length_append, List.length_singleton]; omega, HF, by rw [List.map_append]; exact hown', hb3.upto hb1 (Nat.le_refl _)⟩
                case measure => simp only [strLen, HS.out]; omega
            · have hjl : j < s'.size := by omega
              have hjlt : j < m + 1 := by omega
              have e1 : decide (j = m + 1) = false := by simpa using hjm
              rw [e1]
              have HV := Lib.hid (show (s'.extract 0 (j + 1)).data.toList = c :: t.take j from take_cons s' c t HC.out j)
              have HO := Lib.hid (HY.out j (by omega))
              have HD := Lib.hid (show decide (j + 1 = m + 1) = ((j : Int) + 1 == (m : Int) + 1) by rw [Bool.eq_iff_iff, decide_eq_true_eq, beq_iff_eq]; omega)
              clear e1 hjm
              go_wp2_with fail
              refine (isBegun_yes _ c (t.take j) HV.out m HM.out HO.out _).mono ?_
              rintro e w2 ⟨rfl, b2⟩
              go_wp2_with fail
              go_roundw
              case rel => exact ⟨j + 1, by omega, by go_num, by rw [HD.out], hbj.trans b2⟩
              case measure => simp [intOf]; omega
        · -- it ends early
          have HF := Lib.hid (show M.told8 s.data.toList = ((xs ++ [65533]) ++ (M.told8 (s'.extract K s'.size).data.toList).1, (M.told8 (s'.extract K s'.size).data.toList).2) by
            rw [HT.out, drop_str, hct, M.told8_ok c t (by rw [hf]), hf]; simp only [Int.toNat_natCast]; simp)
          have HS := Lib.hid (drop_size s' K)
          have HC := Lib.hid hct
          have HM := Lib.hid hm
          have HY := Lib.hid hyes
          have HN := Lib.hid hno
          have hlt : K < s'.size := by omega
          clear he hct hm hyes hf hlen hwo hmi hno
          go_wp2_with fail
          go_loopw [5, 6] (fun vn vd wr' => ∃ j : Nat, j ≤ K ∧ vn = .int .i64 j ∧ vd = .bool false ∧ Bel wr wr') (fun vn _ _ => K - (intOf vn).toNat)
          case atStart => exact ⟨0, by omega, rfl, rfl, Bel.refl _⟩
          case round =>
            obtain ⟨j, hj, rfl, rfl, hbj⟩ := hrel
            have hjl : j < s'.size := by omega
            have HV := Lib.hid (show (s'.extract 0 (j + 1)).data.toList = c :: t.take j from take_cons s' c t HC.out j)
            by_cases hjm : j = K
            · subst hjm
              have e2 : ((j : Int) == (s'.size : Int)) = false := by rw [beq_eq_false_iff_ne]; omega
              have e3 : ((j : Int) == 0) = false := by rw [beq_eq_false_iff_ne]; omega
              have hxl : xs.length < 68719476736 := by omega
              have hb2 := hb.trans hbj
              have hown2 := hown.bel hbj
              go_wp2_with fail
              refine (isBegun_no _ c (t.take j) HV.out HN.out _).mono ?_
              rintro e w2 ⟨a, rfl, b2⟩
              have hown3 := hown2.bel b2
              have hb3 := hb2.trans b2
              have hsz : w.heap.size ≤ w2.heap.size := hb3.size
              go_wp2_with (first | (at_builtin; refine wpList_app rfl (.tmp 37) (.tmp 38) 24 rfl elemInt (by decide) w.heap.size _ _ _ rfl rfl hown3 rfl (by simp; omega) (by first | exact Nat.le_refl _ | assumption | (have := hb.size; omega)) ?_; intro v' w1 hown' hb1))
              go_roundw
              case rel => exact ⟨_, xs ++ [65533], rfl, by rw [HS.out, List.length_append, List.length_singleton]; omega, HF, by rw [List.map_append]; exact hown', hb3.upto hb1 (Nat.le_refl _)⟩
              case measure => simp only [strLen, HS.out]; omega
            · have hjlt : j < K := by omega
              have HO := Lib.hid (HY.out j hjlt)
              have HD := Lib.hid (show ((j : Int) + 1 == (m : Int) + 1) = false by rw [beq_eq_false_iff_ne]; omega)
              clear hjm
              go_wp2_with fail
              refine (isBegun_yes _ c (t.take j) HV.out m HM.out HO.out _).mono ?_
              rintro e w2 ⟨rfl, b2⟩
              go_wp2_with fail
              go_roundw
              case rel => exact ⟨j + 1, by omega, by go_num, by rw [HD.out], hbj.trans b2⟩
              case measure => simp [intOf]; omega
        · -- more must come
          have HF := Lib.hid (show M.told8 s.data.toList = (xs, s'.data.toList) by
            rw [HT.out, hct, M.told8_no c t (by rw [hf])]; simp)
          have HC := Lib.hid hct
          have HM := Lib.hid hm
          have HY := Lib.hid hyes
          have hKl : K ≤ s'.size := by omega
          have hKl2 : s'.size ≤ K := by omega
          clear he hct hm hyes hf hlen hwo hmi hKt
          go_wp2_with fail
          go_loopw [5, 6] (fun vn vd wr' => ∃ j : Nat, j ≤ K ∧ vn = .int .i64 j ∧ vd = .bool false ∧ Bel wr wr') (fun vn _ _ => K - (intOf vn).toNat)
          case atStart => exact ⟨0, by omega, rfl, rfl, Bel.refl _⟩
          case round =>
            obtain ⟨j, hj, rfl, rfl, hbj⟩ := hrel
            by_cases hjm : j = K
            · subst hjm
              have e2 : ((j : Int) == (s'.size : Int)) = true := by rw [beq_iff_eq]; omega
              have hb2 := hb.trans hbj
              have hown2 := hown.bel hbj
              go_wp2_with fail
              go_ret2
              rw [HF.out]
              exact ⟨_, by rw [str_eq]; rfl, hown2, hb2⟩
            · have hjlt : j < K := by omega
              have hjl : j < s'.size := by omega
              have HV := Lib.hid (show (s'.extract 0 (j + 1)).data.toList = c :: t.take j from take_cons s' c t HC.out j)
              have HO := Lib.hid (HY.out j hjlt)
              have HD := Lib.hid (show ((j : Int) + 1 == (m : Int) + 1) = false by rw [beq_eq_false_iff_ne]; omega)
              clear hjm
              go_wp2_with fail
              refine (isBegun_yes _ c (t.take j) HV.out m HM.out HO.out _).mono ?_
              rintro e w2 ⟨rfl, b2⟩
              go_wp2_with fail
              go_roundw
              case rel => exact ⟨j + 1, by omega, by go_num, by rw [HD.out], hbj.trans b2⟩
              case measure => simp [intOf]; omega
end Go.Proofs.Ytcgdecpjlggekaa

/-
  The document's answers on streams: FeedOf.
-/
namespace Go.Proofs.Ytcgdecpjlggekaa
open Go.RowKit
set_option maxRecDepth 1000000

theorem rd8_to (s : ByteArray) (xs : List Int) (l : List UInt8) (h : M.told8 s.data.toList = (xs, l)) (hs : s.size ≤ 68719476735) (w : World) : Calls Try.prog 22 #[.string s] w fun e w' => ∃ v, e = .returned (.tuple #[v, .string ⟨l.toArray⟩]) ∧ Own w.heap.size 3 w' v (xs.map (Value.int .i64)) ∧ Bel w w' := by
  have := decodeUtf8_any s hs w; rw [h] at this; exact this
theorem rd16_to (big : Bool) (s : ByteArray) (xs : List Int) (l : List UInt8) (h : M.told16 big s.data.toList = (xs, l)) (hs : s.size ≤ 68719476735) (w : World) : Calls Try.prog 23 #[.bool big, .string s] w fun e w' => ∃ v, e = .returned (.tuple #[v, .string ⟨l.toArray⟩]) ∧ Own w.heap.size 3 w' v (xs.map (Value.int .i64)) ∧ Bel w w' := by
  have := decodeUtf16_any big s hs w; rw [h] at this; exact this
theorem rdS_to (user : Bool) (s : ByteArray) (xs : List Int) (h : M.decodeS user s.data.toList = xs) (hs : s.size ≤ 68719476735) (w : World) : Calls Try.prog 24 #[.bool user, .string s] w fun e w' => ∃ v, e = .returned v ∧ Own w.heap.size 3 w' v (xs.map (Value.int .i64)) ∧ Bel w w' := by
  have := decodeSingle_any user s w hs; rw [h] at this; exact this
theorem rdK_to (g : Int) (f : Bool) (s : ByteArray) (last : Bool) (xs : List Int) (g2 : Int) (f2 : Bool) (l : List UInt8) (h : M.toldK last g f s.data.toList = (xs, g2, f2, l)) (hs : s.size ≤ 68719476735) (w : World) : Calls Try.prog 25 #[.agg #[.int .i64 g, .bool f], .string s, .bool last] w fun e w' =>
    ∃ v, e = .returned (.tuple #[v, .agg #[.int .i64 g2, .bool f2], .string ⟨l.toArray⟩]) ∧ Own w.heap.size 3 w' v (xs.map (Value.int .i64)) ∧ Bel w w' := by
  have := decodeKana_any g f s last hs w; rw [h] at this; exact this
/-- What is answered in the end. -/
def endR (n : Int) (xs : List Int) (l : List UInt8) (sg : Int) (fr st : Bool) (last : Bool) : List Int × M.St := if last = true then (if l = [] then xs else xs ++ [65533], ⟨n, [], 0, false, false⟩) else (xs, ⟨n, l, sg, fr, st⟩)
/-- What the switch leaves. -/
def swR (d : M.St) (s : List UInt8) (last : Bool) : List Int × Int × Bool × Bool × List UInt8 :=
    if d.enc = 1 then ((M.told8 s).1, d.signs, d.fresh, d.stopped, (M.told8 s).2)
    else if d.enc = 2 ∨ d.enc = 3 then ((M.told16 (d.enc == 3) s).1, d.signs, d.fresh, d.stopped, (M.told16 (d.enc == 3) s).2)
    else if d.enc = 4 ∨ d.enc = 5 then (M.decodeS (d.enc == 5) s, d.signs, d.fresh, d.stopped, [])
    else if d.enc = 6 then ((M.toldK last d.signs d.fresh s).1, (M.toldK last d.signs d.fresh s).2.1, (M.toldK last d.signs d.fresh s).2.2.1, d.stopped, (M.toldK last d.signs d.fresh s).2.2.2)
    else if d.enc = 7 ∧ s ≠ [] ∧ d.stopped = false then ([65533], d.signs, d.fresh, true, [])
    else ([], d.signs, d.fresh, d.stopped, [])
theorem refM_swR (d : M.St) (b : List UInt8) (last : Bool) : M.refM d b last = endR d.enc (swR d (d.rest ++ b) last).1 (swR d (d.rest ++ b) last).2.2.2.2 (swR d (d.rest ++ b) last).2.1 (swR d (d.rest ++ b) last).2.2.1 (swR d (d.rest ++ b) last).2.2.2.1 last := by
  unfold M.refM endR swR
  cases last <;> rfl
theorem swR_len (d : M.St) (hn : M.isEnc d.enc = true) (s : List UInt8) (last : Bool) : (swR d s last).1.length ≤ s.length + 1 := by
  unfold swR
  rcases M.enc_cases d.enc hn with h1 | h1 | h1 | h1 | h1
  · rw [if_pos h1]; exact Nat.le_succ_of_le (M.told8_le s)
  · rw [if_neg (by omega), if_pos h1]
    have := (M.told16_len (d.enc == 3) _ s (Nat.le_refl _)).1
    simp only
    omega
  · rw [if_neg (by omega), if_neg (by omega), if_pos h1]; simp [M.decodeS]
  · rw [if_neg (by omega), if_neg (by omega), if_neg (by omega), if_pos h1]
    have := (M.toldK_rest last _ s d.signs d.fresh (Nat.le_refl _)).1
    simp only
    omega
  · rw [if_neg (by omega), if_neg (by omega), if_neg (by omega), if_neg (by omega)]
    split <;> simp
set_option maxHeartbeats 8000000 in
theorem feedOf_any (n : Int) (hn : M.isEnc n = true) (r : ByteArray) (sg : Int) (fr st : Bool) (b : ByteArray) (last : Bool) (hsz : r.size + b.size ≤ 68719476730) (xs : List Int) (d2 : M.St) (hd : M.refM ⟨n, r.data.toList, sg, fr, st⟩ b.data.toList last = (xs, d2)) (w : World) :
    Calls Try.prog 11 #[.agg #[.int .i64 n, .string r, .int .i64 sg, .bool fr, .bool st], .string b, .bool last] w fun e w' => ∃ v, e = .returned (.tuple #[v, stV d2]) ∧ Own w.heap.size 3 w' v (xs.map (Value.int .i64)) ∧ Bel w w' := by
  have hlen := swR_len ⟨n, r.data.toList, sg, fr, st⟩ hn (r ++ b).data.toList last
  rw [data_append, List.length_append, ← Lib.size_eq, ← Lib.size_eq] at hlen
  rw [refM_swR] at hd
  simp only at hd
  obtain ⟨⟨ys, sg2, fr2, st2, l⟩, hq⟩ : ∃ q, swR ⟨n, r.data.toList, sg, fr, st⟩ (r.data.toList ++ b.data.toList) last = q := ⟨_, rfl⟩
  rw [hq] at hd hlen
  simp only at hd hlen
  have HS := Lib.hid (show (r ++ b).size ≤ 68719476734 by rw [Lib.size_eq, data_append, List.length_append, ← Lib.size_eq, ← Lib.size_eq]; omega)
  have HQ := Lib.hid (show swR ⟨n, r.data.toList, sg, fr, st⟩ (r ++ b).data.toList last = (ys, sg2, fr2, st2, l) by rw [data_append]; exact hq)
  have hyl : ys.length ≤ 68719476732 := by omega
  have hS0 : Box ((w.alloc (.cells #[.int .i64 n, .string r, .int .i64 sg, .bool fr, .bool st] 23)).alloc (.cells #[.int .i64 0, .string ⟨#[]⟩, .int .i64 0, .bool false, .bool false] 23)) w.heap.size 23 [.int .i64 n, .string r, .int .i64 sg, .bool fr, .bool st] := (Box.new w _ _).bel ((Bel.refl _).alloc _)
  have hR0 : Box ((w.alloc (.cells #[.int .i64 n, .string r, .int .i64 sg, .bool fr, .bool st] 23)).alloc (.cells #[.int .i64 0, .string ⟨#[]⟩, .int .i64 0, .bool false, .bool false] 23)) (w.heap.size + 1) 23 [.int .i64 0, .string ⟨#[]⟩, .int .i64 0, .bool false, .bool false] := by have := Box.new (w.alloc (.cells #[.int .i64 n, .string r, .int .i64 sg, .bool fr, .bool st] 23)) 23 [.int .i64 0, .string ⟨#[]⟩, .int .i64 0, .bool false, .bool false]; simpa using this
  have hb0 : Bel w ((w.alloc (.cells #[.int .i64 n, .string r, .int .i64 sg, .bool fr, .bool st] 23)).alloc (.cells #[.int .i64 0, .string ⟨#[]⟩, .int .i64 0, .bool false, .bool false] 23)) := (by repeat (first | exact Bel.refl _ | refine Bel.drewN ?_ _ | refine Bel.drew ?_ | refine Bel.alloc ?_ _ | refine Bel.trans ?_ (by assumption) | refine Bel.setCell ?_ (by simp; omega) _))
  have HD := Lib.hid hd
  clear hq hlen hd
  go_enter Try.func11, Try.ntmps11
  go_upto_block 0 with fail
  go_cut [9, 10] from 11 to 74 (fun vo vr wx => vr = .string ⟨l.toArray⟩ ∧ Own (w.heap.size + 1 + 1) 3 wx vo (ys.map (Value.int .i64)) ∧ Box wx w.heap.size 23 [.int .i64 n, .string r, .int .i64 sg2, .bool fr2, .bool st2] ∧ Box wx (w.heap.size + 1) 23 [.int .i64 0, .string ⟨#[]⟩, .int .i64 0, .bool false, .bool false] ∧ Bel w wx)
  case first =>
    generalize (w.alloc (.cells #[.int .i64 n, .string r, .int .i64 sg, .bool fr, .bool st] 23)).alloc (.cells #[.int .i64 0, .string ⟨#[]⟩, .int .i64 0, .bool false, .bool false] 23) = P at *
    have hPs : w.heap.size + 1 + 1 ≤ P.heap.size := hR0.lt
    have hlS : w.heap.size < P.heap.size := by omega
    have hlR : w.heap.size + 1 < P.heap.size := by omega
    have sc0 := hS0.cell 0 _ rfl; have sc1 := hS0.cell 1 _ rfl; have sc2 := hS0.cell 2 _ rfl; have sc3 := hS0.cell 3 _ rfl; have sc4 := hS0.cell 4 _ rfl; have sf0 := hS0.frozen 0; have sf1 := hS0.frozen 1; have sf2 := hS0.frozen 2; have sf3 := hS0.frozen 3; have sf4 := hS0.frozen 4
    have hz := HQ.out
    clear HD HQ hyl hsz
    rcases M.enc_cases n hn with rfl | h1 | h1 | rfl | rfl
    · obtain ⟨⟨zs, l2⟩, ht⟩ : ∃ q, M.told8 (r ++ b).data.toList = q := ⟨_, rfl⟩
      rw [swR, if_pos rfl, ht] at hz
      simp only [Prod.mk.injEq] at hz
      obtain ⟨rfl, rfl, rfl, rfl, rfl⟩ := hz
      have HT := Lib.hid ht
      clear ht hn
      go_wp2_with (first | (go_at_call 22; refine (rd8_to _ _ _ HT.out (Nat.le_succ_of_le HS.out) _).mono ?_; rintro e w' ⟨v1, rfl, o1, b1⟩))
      go_meet
      exact ⟨rfl, o1.mono hPs, hS0.bel b1, hR0.bel b1, hb0.trans b1⟩
    · obtain ⟨⟨zs, l2⟩, ht⟩ : ∃ q, M.told16 (n == 3) (r ++ b).data.toList = q := ⟨_, rfl⟩
      rw [swR, if_neg (by simp only; omega), if_pos h1] at hz
      simp only [ht, Prod.mk.injEq] at hz
      obtain ⟨rfl, rfl, rfl, rfl, rfl⟩ := hz
      have HT := Lib.hid ht
      clear ht hn
      rcases h1 with rfl | rfl
      all_goals
        go_wp2_with (first | (go_at_call 23; refine (rd16_to _ _ _ _ HT.out (Nat.le_succ_of_le HS.out) _).mono ?_; rintro e w' ⟨v1, rfl, o1, b1⟩))
        go_meet
        exact ⟨rfl, o1.mono hPs, hS0.bel b1, hR0.bel b1, hb0.trans b1⟩
    · obtain ⟨zs, ht⟩ : ∃ q, M.decodeS (n == 5) (r ++ b).data.toList = q := ⟨_, rfl⟩
      rw [swR, if_neg (by simp only; omega), if_neg (by simp only; omega), if_pos h1] at hz
      simp only [ht, Prod.mk.injEq] at hz
      obtain ⟨rfl, rfl, rfl, rfl, rfl⟩ := hz
      have HT := Lib.hid ht
      clear ht hn
      rcases h1 with rfl | rfl
      all_goals
        go_wp2_with (first | (go_at_call 24; refine (rdS_to _ _ _ HT.out (Nat.le_succ_of_le HS.out) _).mono ?_; rintro e w' ⟨v1, rfl, o1, b1⟩))
        go_meet
        exact ⟨rfl, o1.mono hPs, hS0.bel b1, hR0.bel b1, hb0.trans b1⟩
    · obtain ⟨⟨zs, g2, f2, l2⟩, ht⟩ : ∃ q, M.toldK last sg fr (r ++ b).data.toList = q := ⟨_, rfl⟩
      rw [swR, if_neg (by simp), if_neg (by simp), if_neg (by simp), if_pos rfl] at hz
      simp only [ht, Prod.mk.injEq] at hz
      obtain ⟨rfl, rfl, rfl, rfl, rfl⟩ := hz
      have HT := Lib.hid ht
      clear ht hn
      have hSa := hS0.bel ((Bel.refl P).alloc (.cells #[.int .i64 0, .bool false] 51))
      have hRa := hR0.bel ((Bel.refl P).alloc (.cells #[.int .i64 0, .bool false] 51))
      have hZa := Box.new P 51 [.int .i64 0, .bool false]
      go_wp2_with (first | (go_at_call 25; refine (rdK_to _ _ _ _ _ _ _ _ HT.out (Nat.le_succ_of_le HS.out) _).mono ?_; rintro e w' ⟨v1, rfl, o1, b1⟩; have hS1 := hSa.bel b1; have hR1 := hRa.bel b1; have hZ1 := hZa.bel b1; have z0 := hZ1.cell 0 _ rfl; have z1 := hZ1.cell 1 _ rfl; have zf0 := hZ1.frozen 0; have zf1 := hZ1.frozen 1; have tc0 := hS1.cell 0 _ rfl; have tc1 := hS1.cell 1 _ rfl; have tc2 := hS1.cell 2 _ rfl; have tc3 := hS1.cell 3 _ rfl; have tc4 := hS1.cell 4 _ rfl; have tf0 := hS1.frozen 0; have tf1 := hS1.frozen 1; have tf2 := hS1.frozen 2; have tf3 := hS1.frozen 3; have tf4 := hS1.frozen 4))
      have hS2 := (hS1.far (p := ⟨P.heap.size, 0, none⟩) (Nat.ne_of_lt hlS) (.int .i64 g2)).far (p := ⟨P.heap.size, 1, none⟩) (Nat.ne_of_lt hlS) (.bool f2)
      have hR2 := (hR1.far (p := ⟨P.heap.size, 0, none⟩) (Nat.ne_of_lt hlR) (.int .i64 g2)).far (p := ⟨P.heap.size, 1, none⟩) (Nat.ne_of_lt hlR) (.bool f2)
      have hZ2 := (hZ1.set 0 (.int .i64 g2)).set 1 (.bool f2)
      have hO2 : Own (w.heap.size + 1 + 1) 3 _ v1 (zs.map (Value.int .i64)) := ((o1.setCell (p := ⟨P.heap.size, 0, none⟩) (by simp) (.int .i64 g2)).setCell (p := ⟨P.heap.size, 1, none⟩) (by simp) (.bool f2)).mono (by simp; omega)
      have hB2 := (((hb0.alloc (.cells #[.int .i64 0, .bool false] 51)).trans b1).setCell (p := ⟨P.heap.size, 0, none⟩) (Nat.le_of_lt hlS) (.int .i64 g2)).setCell (p := ⟨P.heap.size, 1, none⟩) (Nat.le_of_lt hlS) (.bool f2)
      clear z0 z1 zf0 zf1 tc0 tc1 tc2 tc3 tc4 tf0 tf1 tf2 tf3 tf4 sc0 sc1 sc2 sc3 sc4 sf0 sf1 sf2 sf3 sf4 hS1 hR1 hZ1 hSa hRa hZa o1 b1 hS0 hR0 hb0
      generalize (w'.setCell ⟨P.heap.size, 0, none⟩ (.int .i64 g2)).setCell ⟨P.heap.size, 1, none⟩ (.bool f2) = W at *
      generalize P.heap.size = q at *
      have z0 := hZ2.cell 0 _ rfl
      have z1 := hZ2.cell 1 _ rfl
      have tc0 := hS2.cell 0 _ rfl; have tc1 := hS2.cell 1 _ rfl; have tc2 := hS2.cell 2 _ rfl; have tc3 := hS2.cell 3 _ rfl; have tc4 := hS2.cell 4 _ rfl; have tf0 := hS2.frozen 0; have tf1 := hS2.frozen 1; have tf2 := hS2.frozen 2; have tf3 := hS2.frozen 3; have tf4 := hS2.frozen 4
      go_region
      all_goals
        go_wp2_with fail
        go_meet
        first
          | exact ⟨rfl, (hO2.setCell (p := ⟨w.heap.size, 2, none⟩) (by show w.heap.size < w.heap.size + 1 + 1; omega) _).setCell (p := ⟨w.heap.size, 3, none⟩) (by show w.heap.size < w.heap.size + 1 + 1; omega) _, (hS2.set 2 _).set 3 _, (hR2.far (p := ⟨w.heap.size, 2, none⟩) (by simp) _).far (p := ⟨w.heap.size, 3, none⟩) (by simp) _, ((hB2.setCell (p := ⟨w.heap.size, 2, none⟩) (Nat.le_refl _) _).setCell (p := ⟨w.heap.size, 3, none⟩) (Nat.le_refl _) _).drew⟩
          | exact ⟨rfl, (hO2.setCell (p := ⟨w.heap.size, 3, none⟩) (by show w.heap.size < w.heap.size + 1 + 1; omega) _).setCell (p := ⟨w.heap.size, 2, none⟩) (by show w.heap.size < w.heap.size + 1 + 1; omega) _, (hS2.set 3 _).set 2 _, (hR2.far (p := ⟨w.heap.size, 3, none⟩) (by simp) _).far (p := ⟨w.heap.size, 2, none⟩) (by simp) _, ((hB2.setCell (p := ⟨w.heap.size, 3, none⟩) (Nat.le_refl _) _).setCell (p := ⟨w.heap.size, 2, none⟩) (Nat.le_refl _) _).drew⟩
          | trace_state
    · have hz2 : swR ⟨7, r.data.toList, sg, fr, st⟩ (r ++ b).data.toList last = if (r ++ b).data.toList ≠ [] ∧ st = false then ([65533], sg, fr, true, []) else ([], sg, fr, st, []) := by
        rw [swR, if_neg (by simp), if_neg (by simp), if_neg (by simp), if_neg (by simp)]
        simp
      rw [hz2] at hz
      by_cases he : (r ++ b).data.toList = []
      · rw [if_neg (fun h9 => h9.1 he)] at hz
        simp only [Prod.mk.injEq] at hz
        obtain ⟨rfl, rfl, rfl, rfl, rfl⟩ := hz
        have e1 : (!(r ++ b).toList.isEmpty) = false := by rw [Lib.toList_data, he]; rfl
        have e2 : (r ++ b).toList.isEmpty = true := by rw [Lib.toList_data, he]; rfl
        clear hn hz2 he
        go_wp2_with fail
        go_meet
        exact ⟨rfl, Own.nil _ _ _, hS0, hR0, hb0⟩
      · have e1 : (!(r ++ b).toList.isEmpty) = true := by rw [Lib.toList_data]; simpa using he
        have e2 : (r ++ b).toList.isEmpty = false := by rw [Lib.toList_data]; simpa using he
        cases st
        · rw [if_pos ⟨he, rfl⟩] at hz
          simp only [Prod.mk.injEq] at hz
          obtain ⟨rfl, rfl, rfl, rfl, rfl⟩ := hz
          clear hn hz2 he
          go_wp2_with fail
          go_meet
          have hO := Own.made (B := w.heap.size + 1 + 1) (e := 3) (P.setCell ⟨w.heap.size, 4, none⟩ (.bool true)) [.int .i64 65533] (by simpa using hPs) (by simp [maxLen])
          simp only [World.size_setCell, List.length_singleton] at hO
          exact ⟨rfl, hO, (hS0.set 4 _).bel ((Bel.refl _).alloc _), (hR0.far (p := ⟨w.heap.size, 4, none⟩) (by simp) _).bel ((Bel.refl _).alloc _), (hb0.setCell (p := ⟨w.heap.size, 4, none⟩) (Nat.le_refl _) _).alloc _⟩
        · rw [if_neg (by simp)] at hz
          simp only [Prod.mk.injEq] at hz
          obtain ⟨rfl, rfl, rfl, rfl, rfl⟩ := hz
          clear hn hz2 he
          go_wp2_with fail
          go_meet
          exact ⟨rfl, Own.nil _ _ _, hS0, hR0, hb0⟩
  case rest =>
    obtain ⟨rfl, hO, hS, hR, hB⟩ := hcut
    have hs1 : w.heap.size + 1 + 1 ≤ wc.heap.size := hR.lt
    have sc0 := hS.cell 0 _ rfl; have sc1 := hS.cell 1 _ rfl; have sc2 := hS.cell 2 _ rfl; have sc3 := hS.cell 3 _ rfl; have sc4 := hS.cell 4 _ rfl; have sf0 := hS.frozen 0; have sf1 := hS.frozen 1; have sf2 := hS.frozen 2; have sf3 := hS.frozen 3; have sf4 := hS.frozen 4
    have rc0 := hR.cell 0 _ rfl; have rc1 := hR.cell 1 _ rfl; have rc2 := hR.cell 2 _ rfl; have rc3 := hR.cell 3 _ rfl; have rc4 := hR.cell 4 _ rfl; have rf0 := hR.frozen 0; have rf1 := hR.frozen 1; have rf2 := hR.frozen 2; have rf3 := hR.frozen 3; have rf4 := hR.frozen 4
    have hd := HD.out
    clear HQ HD hS0 hR0 hb0 HS hsz hn
    cases last
    · rw [endR, if_neg (by decide)] at hd
      injection hd with hd1 hd2
      subst hd1
      subst hd2
      go_wp2_with fail
      go_region
      go_wp2_with fail
      have hF := Box.drew ((((((hR.far (p := ⟨w.heap.size, 1, none⟩) (by simp) (.string ⟨l.toArray⟩)).set 0 (.int .i64 n)).set 1 (.string ⟨l.toArray⟩)).set 2 (.int .i64 sg2)).set 3 (.bool fr2)).set 4 (.bool st2))
      have y0 := hF.cell 0 _ rfl
      have y1 := hF.cell 1 _ rfl
      have y2 := hF.cell 2 _ rfl
      have y3 := hF.cell 3 _ rfl
      have y4 := hF.cell 4 _ rfl
      refine bodyPost_ret (v := .tuple #[u9, .agg #[.int .i64 n, .string ⟨l.toArray⟩, .int .i64 sg2, .bool fr2, .bool st2]]) (by simp [results, Try.results11, go_sem, y0, y1, y2, y3, y4]) rfl ?_
      exact ⟨_, rfl, (((((((hO.setCell (p := ⟨w.heap.size, 1, none⟩) (by show w.heap.size < w.heap.size + 1 + 1; omega) _).setCell (p := ⟨w.heap.size + 1, 0, none⟩) (Nat.lt_succ_self _) _).setCell (p := ⟨w.heap.size + 1, 1, none⟩) (Nat.lt_succ_self _) _).setCell (p := ⟨w.heap.size + 1, 2, none⟩) (Nat.lt_succ_self _) _).setCell (p := ⟨w.heap.size + 1, 3, none⟩) (Nat.lt_succ_self _) _).setCell (p := ⟨w.heap.size + 1, 4, none⟩) (Nat.lt_succ_self _) _)).drew.mono (by omega), (((((((hB.setCell (p := ⟨w.heap.size, 1, none⟩) (Nat.le_refl _) _).setCell (p := ⟨w.heap.size + 1, 0, none⟩) (Nat.le_succ _) _).setCell (p := ⟨w.heap.size + 1, 1, none⟩) (Nat.le_succ _) _).setCell (p := ⟨w.heap.size + 1, 2, none⟩) (Nat.le_succ _) _).setCell (p := ⟨w.heap.size + 1, 3, none⟩) (Nat.le_succ _) _).setCell (p := ⟨w.heap.size + 1, 4, none⟩) (Nat.le_succ _) _)).drew⟩
    · rw [endR, if_pos rfl] at hd
      by_cases hl : l = []
      · subst hl
        rw [if_pos rfl] at hd
        injection hd with hd1 hd2
        subst hd1
        subst hd2
        go_wp2_with fail
        go_region
        go_wp2_with fail
        have hF := Box.drew (((((((((((hR.far (p := ⟨w.heap.size, 1, none⟩) (by simp) (.string ⟨#[]⟩)).far (p := ⟨w.heap.size, 0, none⟩) (by simp) (.int .i64 n)).far (p := ⟨w.heap.size, 1, none⟩) (by simp) (.string ⟨#[]⟩)).far (p := ⟨w.heap.size, 2, none⟩) (by simp) (.int .i64 0)).far (p := ⟨w.heap.size, 3, none⟩) (by simp) (.bool false)).far (p := ⟨w.heap.size, 4, none⟩) (by simp) (.bool false)).set 0 (.int .i64 n)).set 1 (.string ⟨#[]⟩)).set 2 (.int .i64 0)).set 3 (.bool false)).set 4 (.bool false))
        have y0 := hF.cell 0 _ rfl
        have y1 := hF.cell 1 _ rfl
        have y2 := hF.cell 2 _ rfl
        have y3 := hF.cell 3 _ rfl
        have y4 := hF.cell 4 _ rfl
        refine bodyPost_ret (v := .tuple #[u9, .agg #[.int .i64 n, .string ⟨#[]⟩, .int .i64 0, .bool false, .bool false]]) (by simp [results, Try.results11, go_sem, y0, y1, y2, y3, y4]) rfl ?_
        exact ⟨_, rfl, ((((((((((((hO.setCell (p := ⟨w.heap.size, 1, none⟩) (by show w.heap.size < w.heap.size + 1 + 1; omega) _).setCell (p := ⟨w.heap.size, 0, none⟩) (by show w.heap.size < w.heap.size + 1 + 1; omega) _).setCell (p := ⟨w.heap.size, 1, none⟩) (by show w.heap.size < w.heap.size + 1 + 1; omega) _).setCell (p := ⟨w.heap.size, 2, none⟩) (by show w.heap.size < w.heap.size + 1 + 1; omega) _).setCell (p := ⟨w.heap.size, 3, none⟩) (by show w.heap.size < w.heap.size + 1 + 1; omega) _).setCell (p := ⟨w.heap.size, 4, none⟩) (by show w.heap.size < w.heap.size + 1 + 1; omega) _).setCell (p := ⟨w.heap.size + 1, 0, none⟩) (Nat.lt_succ_self _) _).setCell (p := ⟨w.heap.size + 1, 1, none⟩) (Nat.lt_succ_self _) _).setCell (p := ⟨w.heap.size + 1, 2, none⟩) (Nat.lt_succ_self _) _).setCell (p := ⟨w.heap.size + 1, 3, none⟩) (Nat.lt_succ_self _) _).setCell (p := ⟨w.heap.size + 1, 4, none⟩) (Nat.lt_succ_self _) _)).drew.mono (by omega), ((((((((((((hB.setCell (p := ⟨w.heap.size, 1, none⟩) (Nat.le_refl _) _).setCell (p := ⟨w.heap.size, 0, none⟩) (Nat.le_refl _) _).setCell (p := ⟨w.heap.size, 1, none⟩) (Nat.le_refl _) _).setCell (p := ⟨w.heap.size, 2, none⟩) (Nat.le_refl _) _).setCell (p := ⟨w.heap.size, 3, none⟩) (Nat.le_refl _) _).setCell (p := ⟨w.heap.size, 4, none⟩) (Nat.le_refl _) _).setCell (p := ⟨w.heap.size + 1, 0, none⟩) (Nat.le_succ _) _).setCell (p := ⟨w.heap.size + 1, 1, none⟩) (Nat.le_succ _) _).setCell (p := ⟨w.heap.size + 1, 2, none⟩) (Nat.le_succ _) _).setCell (p := ⟨w.heap.size + 1, 3, none⟩) (Nat.le_succ _) _).setCell (p := ⟨w.heap.size + 1, 4, none⟩) (Nat.le_succ _) _)).drew⟩
      · rw [if_neg hl] at hd
        injection hd with hd1 hd2
        subst hd1
        subst hd2
        have e1 : (!l.isEmpty) = true := by simpa using hl
        have e2 : l.isEmpty = false := by simpa using hl
        have o1b := hO.setCell (p := ⟨w.heap.size, 1, none⟩) (by show w.heap.size < w.heap.size + 1 + 1; omega) (.string ⟨l.toArray⟩)
        clear hl
        go_wp2_with (first | (at_builtin; refine wpList_app rfl (.tmp 80) (.tmp 81) 24 rfl elemInt (by decide) (w.heap.size + 1 + 1) _ _ _ rfl (by rw [World.size_setCell]; rfl) o1b rfl (by simp; omega) (by simp; omega) ?_; intro v3 w3 o3 b3; have hS3 := Box.upto (B := w.heap.size + 1 + 1) (hS.set 1 (.string ⟨l.toArray⟩)) b3 (by omega); have hR3 := Box.upto (B := w.heap.size + 1 + 1) (hR.far (p := ⟨w.heap.size, 1, none⟩) (by simp) (.string ⟨l.toArray⟩)) b3 (by omega); have tc0 := hS3.cell 0 _ rfl; have tc1 := hS3.cell 1 _ rfl; have tc2 := hS3.cell 2 _ rfl; have tc3 := hS3.cell 3 _ rfl; have tc4 := hS3.cell 4 _ rfl; have tf0 := hS3.frozen 0; have tf1 := hS3.frozen 1; have tf2 := hS3.frozen 2; have tf3 := hS3.frozen 3; have tf4 := hS3.frozen 4; have uc0 := hR3.cell 0 _ rfl; have uc1 := hR3.cell 1 _ rfl; have uc2 := hR3.cell 2 _ rfl; have uc3 := hR3.cell 3 _ rfl; have uc4 := hR3.cell 4 _ rfl; have uf0 := hR3.frozen 0; have uf1 := hR3.frozen 1; have uf2 := hR3.frozen 2; have uf3 := hR3.frozen 3; have uf4 := hR3.frozen 4))
        go_region
        go_wp2_with fail
        have o3b : Own (w.heap.size + 1 + 1) 3 w3 v3 ((ys ++ [65533]).map (Value.int .i64)) := by rw [List.map_append]; exact o3
        have hB3 : Bel w w3 := Bel.upto (hB.setCell (p := ⟨w.heap.size, 1, none⟩) (Nat.le_refl _) _) b3 (by omega)
        have hF := Box.drew ((((((((((hR3.far (p := ⟨w.heap.size, 0, none⟩) (by simp) (.int .i64 n)).far (p := ⟨w.heap.size, 1, none⟩) (by simp) (.string ⟨#[]⟩)).far (p := ⟨w.heap.size, 2, none⟩) (by simp) (.int .i64 0)).far (p := ⟨w.heap.size, 3, none⟩) (by simp) (.bool false)).far (p := ⟨w.heap.size, 4, none⟩) (by simp) (.bool false)).set 0 (.int .i64 n)).set 1 (.string ⟨#[]⟩)).set 2 (.int .i64 0)).set 3 (.bool false)).set 4 (.bool false))
        have y0 := hF.cell 0 _ rfl
        have y1 := hF.cell 1 _ rfl
        have y2 := hF.cell 2 _ rfl
        have y3 := hF.cell 3 _ rfl
        have y4 := hF.cell 4 _ rfl
        refine bodyPost_ret (v := .tuple #[v3, .agg #[.int .i64 n, .string ⟨#[]⟩, .int .i64 0, .bool false, .bool false]]) (by simp [results, Try.results11, go_sem, y0, y1, y2, y3, y4]) rfl ?_
        exact ⟨_, rfl, (((((((((((o3b.setCell (p := ⟨w.heap.size, 0, none⟩) (by show w.heap.size < w.heap.size + 1 + 1; omega) _).setCell (p := ⟨w.heap.size, 1, none⟩) (by show w.heap.size < w.heap.size + 1 + 1; omega) _).setCell (p := ⟨w.heap.size, 2, none⟩) (by show w.heap.size < w.heap.size + 1 + 1; omega) _).setCell (p := ⟨w.heap.size, 3, none⟩) (by show w.heap.size < w.heap.size + 1 + 1; omega) _).setCell (p := ⟨w.heap.size, 4, none⟩) (by show w.heap.size < w.heap.size + 1 + 1; omega) _).setCell (p := ⟨w.heap.size + 1, 0, none⟩) (Nat.lt_succ_self _) _).setCell (p := ⟨w.heap.size + 1, 1, none⟩) (Nat.lt_succ_self _) _).setCell (p := ⟨w.heap.size + 1, 2, none⟩) (Nat.lt_succ_self _) _).setCell (p := ⟨w.heap.size + 1, 3, none⟩) (Nat.lt_succ_self _) _).setCell (p := ⟨w.heap.size + 1, 4, none⟩) (Nat.lt_succ_self _) _)).drew.mono (by omega), (((((((((((hB3.setCell (p := ⟨w.heap.size, 0, none⟩) (Nat.le_refl _) _).setCell (p := ⟨w.heap.size, 1, none⟩) (Nat.le_refl _) _).setCell (p := ⟨w.heap.size, 2, none⟩) (Nat.le_refl _) _).setCell (p := ⟨w.heap.size, 3, none⟩) (Nat.le_refl _) _).setCell (p := ⟨w.heap.size, 4, none⟩) (Nat.le_refl _) _).setCell (p := ⟨w.heap.size + 1, 0, none⟩) (Nat.le_succ _) _).setCell (p := ⟨w.heap.size + 1, 1, none⟩) (Nat.le_succ _) _).setCell (p := ⟨w.heap.size + 1, 2, none⟩) (Nat.le_succ _) _).setCell (p := ⟨w.heap.size + 1, 3, none⟩) (Nat.le_succ _) _).setCell (p := ⟨w.heap.size + 1, 4, none⟩) (Nat.le_succ _) _)).drew⟩
theorem decodeOf_any (n : Int) (hn : M.isEnc n = true) (s : ByteArray) (hs : s.size ≤ 3000) (w : World) : Calls Try.prog 10 #[.int .i64 n, .string s] w fun e w' => ∃ v, e = .returned v ∧ Own w.heap.size 3 w' v ((M.allE n s.data.toList).map (Value.int .i64)) ∧ Bel w w' := by
  have hd : M.refM ⟨n, (⟨#[]⟩ : ByteArray).data.toList, 0, false, false⟩ s.data.toList true = (M.allE n s.data.toList, ⟨n, [], 0, false, false⟩) := by
    have h1 := M.ref_raw (M.opn n) (M.right_opn n hn) s.data.toList true
    have h2 := M.raw_all n hn s.data.toList
    have h3 := M.raw_last (M.opn n) s.data.toList
    rw [show M.refM ⟨n, (⟨#[]⟩ : ByteArray).data.toList, 0, false, false⟩ s.data.toList true = M.rawM (M.opn n) s.data.toList true from h1]
    exact Prod.ext h2 h3
  have HD := Lib.hid hd
  have HN := Lib.hid hn
  clear hd hn
  go_enter Try.func10, Try.ntmps10
  go_wp2_with (first | (go_at_call 11; refine (feedOf_any n HN.out ⟨#[]⟩ 0 false false s true (by have : (⟨#[]⟩ : ByteArray).size = 0 := rfl; omega) _ _ HD.out _).mono ?_; rintro e w1 ⟨v, rfl, ho, hb⟩; simp only [stV]))
  go_ret
  exact ⟨_, rfl, by first | assumption | exact ho.alloc _, by first | assumption | exact hb.alloc _⟩
end Go.Proofs.Ytcgdecpjlggekaa

/-
  The document's answers on streams: CheckState.
-/
namespace Go.Proofs.Ytcgdecpjlggekaa
open Go.RowKit
set_option maxRecDepth 1000000

theorem isEncoding_to (n : Int) (b : Bool) (h : M.isEnc n = b) (w : World) : Calls Try.prog 7 #[.int .i64 n] w fun e w' => e = .returned (.bool b) ∧ w = w' := by
  have := isEncoding_any n w; rw [h] at this; exact this
set_option maxHeartbeats 8000000 in
theorem checkState_any (n : Int) (r : ByteArray) (sg : Int) (fr st : Bool) (k : Int) (hk : M.checkM ⟨n, r.data.toList, sg, fr, st⟩ = k) (w : World) : Calls Try.prog 9 #[.agg #[.int .i64 n, .string r, .int .i64 sg, .bool fr, .bool st]] w fun e w' => e = .returned (.int .i64 k) ∧ Bel w w' := by
  cases h : M.isEnc n with
  | false =>
    have HI := Lib.hid h
    obtain rfl : k = 6 := by rw [← hk, M.checkM, if_pos h]
    clear h hk
    go_enter Try.func9, Try.ntmps9
    go_wp2_with (first | (go_at_call 7; refine (isEncoding_to _ _ HI.out _).mono ?_; rintro e w' ⟨rfl, rfl⟩))
    go_ret
    exact ⟨rfl, (by repeat (first | exact Bel.refl _ | refine Bel.drewN ?_ _ | refine Bel.drew ?_ | refine Bel.alloc ?_ _ | refine Bel.trans ?_ (by assumption) | refine Bel.setCell ?_ (by simp; omega) _))⟩
  | true =>
    have HI := Lib.hid h
    have hk2 := M.check_ref ⟨n, r.data.toList, sg, fr, st⟩ h
    rw [hk] at hk2
    simp only at hk2
    obtain ⟨ok, hok⟩ : ∃ ok, M.okR n r.data.toList = ok := ⟨_, rfl⟩
    rw [hok] at hk2
    have HK := Lib.hid hk2
    have HO := Lib.hid hok
    have hS0 := Box.new w 23 [.int .i64 n, .string r, .int .i64 sg, .bool fr, .bool st]
    have hb0 : Bel w (w.alloc (.cells #[.int .i64 n, .string r, .int .i64 sg, .bool fr, .bool st] 23)) := (by repeat (first | exact Bel.refl _ | refine Bel.drewN ?_ _ | refine Bel.drew ?_ | refine Bel.alloc ?_ _ | refine Bel.trans ?_ (by assumption) | refine Bel.setCell ?_ (by simp; omega) _))
    clear hk hk2 hok
    go_enter Try.func9, Try.ntmps9
    go_upto_block 0 with (first | (go_at_call 7; refine (isEncoding_to _ _ HI.out _).mono ?_; rintro e w' ⟨rfl, rfl⟩))
    go_cut [3] from 4 to 63 (fun vo wx => vo = .bool ok ∧ Box wx w.heap.size 23 [.int .i64 n, .string r, .int .i64 sg, .bool fr, .bool st] ∧ Bel w wx)
    case first =>
      generalize w.alloc (.cells #[.int .i64 n, .string r, .int .i64 sg, .bool fr, .bool st] 23) = P at *
      have sc0 := hS0.cell 0 _ rfl; have sc1 := hS0.cell 1 _ rfl; have sc2 := hS0.cell 2 _ rfl; have sc3 := hS0.cell 3 _ rfl; have sc4 := hS0.cell 4 _ rfl
      have ho := HO.out
      clear HK HO HI
      by_cases he : r.data.toList = []
      · have e1 : r.toList.isEmpty = true := by rw [Lib.toList_data, he]; rfl
        have hz : r.size = 0 := by rw [Lib.size_eq, he]; rfl
        have hzi : (r.size : Int) < 1 := by omega
        obtain rfl : ok = true := by rw [← ho, he]; rfl
        have HB := Lib.hid (show decide ((1 : Int) ≤ (r.size : Int) ∧ (r.size : Int) ≤ 3) = false by rw [decide_eq_false_iff_not]; omega)
        clear he hz ho
        rcases M.enc_cases n h with rfl | h1 | h1 | rfl | rfl
        · skip
          go_wp2_with (first | (go_at_call 19; refine (between_to _ _ _ _ HB.out _).mono ?_; rintro e w' ⟨rfl, rfl⟩))
          go_meet
          exact ⟨(by first | rfl | rw [e1]), hS0, hb0⟩
        · clear h
          rcases h1 with rfl | rfl
          · skip
            go_wp2_with (first | (go_at_call 19; refine (between_to _ _ _ _ HB.out _).mono ?_; rintro e w' ⟨rfl, rfl⟩))
            go_meet
            exact ⟨(by first | rfl | rw [e1]), hS0, hb0⟩
          · skip
            go_wp2_with (first | (go_at_call 19; refine (between_to _ _ _ _ HB.out _).mono ?_; rintro e w' ⟨rfl, rfl⟩))
            go_meet
            exact ⟨(by first | rfl | rw [e1]), hS0, hb0⟩
        · clear h
          rcases h1 with rfl | rfl
          · skip
            go_wp2_with (first | (go_at_call 19; refine (between_to _ _ _ _ HB.out _).mono ?_; rintro e w' ⟨rfl, rfl⟩))
            go_meet
            exact ⟨(by first | rfl | rw [e1]), hS0, hb0⟩
          · skip
            go_wp2_with (first | (go_at_call 19; refine (between_to _ _ _ _ HB.out _).mono ?_; rintro e w' ⟨rfl, rfl⟩))
            go_meet
            exact ⟨(by first | rfl | rw [e1]), hS0, hb0⟩
        · skip
          go_wp2_with (first | (go_at_call 19; refine (between_to _ _ _ _ HB.out _).mono ?_; rintro e w' ⟨rfl, rfl⟩))
          go_meet
          exact ⟨(by first | rfl | rw [e1]), hS0, hb0⟩
        · skip
          go_wp2_with (first | (go_at_call 19; refine (between_to _ _ _ _ HB.out _).mono ?_; rintro e w' ⟨rfl, rfl⟩))
          go_meet
          exact ⟨(by first | rfl | rw [e1]), hS0, hb0⟩
      · obtain ⟨c, t, hct⟩ : ∃ c t, r.data.toList = c :: t := by
          cases hq : r.data.toList with
          | nil => exact absurd hq he
          | cons c t => exact ⟨c, t, rfl⟩
        have e1 : r.toList.isEmpty = false := by rw [Lib.toList_data, hct]; rfl
        have hz : r.size = t.length + 1 := by rw [Lib.size_eq, hct]; rfl
        have hz1 : 1 ≤ r.size := by omega
        rw [hct] at ho
        have ho2 : M.okC n c t = ok := ho
        clear ho he
        rcases M.enc_cases n h with rfl | h1 | h1 | rfl | rfl
        · rw [M.okC.eq_def, if_pos rfl] at ho2
          by_cases h3 : r.size ≤ 3
          · have HB := Lib.hid (show decide ((1 : Int) ≤ (r.size : Int) ∧ (r.size : Int) ≤ 3) = true by rw [decide_eq_true_eq]; omega)
            have HC := Lib.hid (isBegun_any r c t hct)
            rw [show decide (t.length ≤ 2) = true by rw [decide_eq_true_eq]; omega, Bool.true_and] at ho2
            cases hk8 : M.ok8 c t with
            | false =>
              rw [hk8, Bool.false_and] at ho2
              subst ho2
              rw [hk8] at HC
              clear hct hz h hk8
              go_wp2_with (first | (go_at_call 19; refine (between_to _ _ _ _ HB.out _).mono ?_; rintro e w' ⟨rfl, rfl⟩) | (go_at_call 20; refine (HC.out _).mono ?_; rintro e w1 ⟨a, rfl, _, b1⟩))
              go_meet
              exact ⟨rfl, hS0.bel b1, hb0.trans b1⟩
            | true =>
              rw [hk8, Bool.true_and] at ho2
              rw [hk8] at HC
              have HZ := Lib.hid hz
              clear hct hz h hk8
              go_wp2_with (first | (go_at_call 19; refine (between_to _ _ _ _ HB.out _).mono ?_; rintro e w' ⟨rfl, rfl⟩) | (go_at_call 20; refine (HC.out _).mono ?_; rintro e w1 ⟨a, rfl, ha, b1⟩))
              go_meet
              exact ⟨by rw [← ho2, show ((r.size : Nat) : Int) = (t.length : Int) + 1 by rw [HZ.out]; rfl], hS0.bel b1, hb0.trans b1⟩
          · have HB := Lib.hid (show decide ((1 : Int) ≤ (r.size : Int) ∧ (r.size : Int) ≤ 3) = false by rw [decide_eq_false_iff_not]; omega)
            rw [show decide (t.length ≤ 2) = false by rw [decide_eq_false_iff_not]; omega, Bool.false_and] at ho2
            subst ho2
            clear hct hz h
            go_wp2_with (first | (go_at_call 19; refine (between_to _ _ _ _ HB.out _).mono ?_; rintro e w' ⟨rfl, rfl⟩))
            go_meet
            exact ⟨(by first | rfl | rw [e1]), hS0, hb0⟩
        · rw [M.okC.eq_def, if_neg (by omega), if_pos h1] at ho2
          by_cases h3 : r.size ≤ 3
          · have HB := Lib.hid (show decide ((1 : Int) ≤ (r.size : Int) ∧ (r.size : Int) ≤ 3) = true by rw [decide_eq_true_eq]; omega)
            cases t with
            | nil =>
              have hzo : ((r.size : Int) == 1) = true := by rw [beq_iff_eq, hz]; rfl
              simp only at ho2
              subst ho2
              clear hct hz h
              rcases h1 with rfl | rfl
              all_goals
                go_wp2_with (first | (go_at_call 19; refine (between_to _ _ _ _ HB.out _).mono ?_; rintro e w' ⟨rfl, rfl⟩))
                go_meet
                exact ⟨rfl, hS0, hb0⟩
            | cons d u =>
              have hzo : ((r.size : Int) == 1) = false := by rw [beq_eq_false_iff_ne, hz]; simp only [List.length_cons]; omega
              simp only at ho2
              rw [show decide (u.length ≤ 1) = true by rw [decide_eq_true_eq]; simp only [List.length_cons] at hz; omega, Bool.true_and] at ho2
              obtain ⟨m, hm⟩ : ∃ m, M.unit16 (n == 3) c d = m := ⟨_, rfl⟩
              rw [hm] at ho2
              have HM := Lib.hid hm
              have HH := Lib.hid (show decide ((55296 : Int) ≤ m ∧ m ≤ 56319) = ok from ho2)
              have H0 := Lib.hid (show r.data.toList[0]? = some c by rw [hct]; rfl)
              have H1 := Lib.hid (show r.data.toList[0 + 1]? = some d by rw [hct]; rfl)
              clear hct hz h ho2 hm
              rcases h1 with rfl | rfl
              all_goals
                go_wp2_with (first | (go_at_call 19; (first | with_reducible refine (between_to _ _ _ _ HB.out _).mono ?_ | with_reducible refine (between_to m 55296 56319 ok HH.out _).mono ?_); rintro e w1 ⟨rfl, rfl⟩) | (go_at_call 21; refine (unitAt_to _ r 0 c d m HM.out H0.out H1.out (by omega) _ rfl _).mono ?_; rintro e w1 ⟨rfl, q, rfl⟩))
                go_meet
                exact ⟨rfl, hS0.drewN _, hb0.drewN _⟩
          · have HB := Lib.hid (show decide ((1 : Int) ≤ (r.size : Int) ∧ (r.size : Int) ≤ 3) = false by rw [decide_eq_false_iff_not]; omega)
            cases t with
            | nil => exfalso; simp only [List.length_nil] at hz; omega
            | cons d u =>
              simp only at ho2
              rw [show decide (u.length ≤ 1) = false by rw [decide_eq_false_iff_not]; simp only [List.length_cons] at hz; omega, Bool.false_and] at ho2
              subst ho2
              clear hct hz h
              rcases h1 with rfl | rfl
              · skip
                go_wp2_with (first | (go_at_call 19; refine (between_to _ _ _ _ HB.out _).mono ?_; rintro e w' ⟨rfl, rfl⟩))
                go_meet
                exact ⟨(by first | rfl | rw [e1]), hS0, hb0⟩
              · skip
                go_wp2_with (first | (go_at_call 19; refine (between_to _ _ _ _ HB.out _).mono ?_; rintro e w' ⟨rfl, rfl⟩))
                go_meet
                exact ⟨(by first | rfl | rw [e1]), hS0, hb0⟩
        · rw [M.okC.eq_def, if_neg (by omega), if_neg (by omega), if_neg (by omega)] at ho2
          subst ho2
          have HB := Lib.hid trivial
          clear hct hz h
          rcases h1 with rfl | rfl
          · skip
            go_wp2_with fail
            go_meet
            exact ⟨(by first | rfl | rw [e1]), hS0, hb0⟩
          · skip
            go_wp2_with fail
            go_meet
            exact ⟨(by first | rfl | rw [e1]), hS0, hb0⟩
        · rw [M.okC.eq_def, if_neg (by omega), if_neg (by omega), if_pos rfl, ← hct] at ho2
          clear hct hz h
          have z1 : (r.toList == [27]) = decide (r.data.toList = [27]) := by rw [Lib.toList_data]; by_cases h9 : r.data.toList = [27] <;> simp [h9]
          have z2 : (r.toList == [27, 40]) = decide (r.data.toList = [27, 40]) := by rw [Lib.toList_data]; by_cases h9 : r.data.toList = [27, 40] <;> simp [h9]
          by_cases q1 : r.data.toList = [27]
          · have y1 : (r.toList == [27]) = true := by rw [z1, decide_eq_true_eq]; exact q1
            obtain rfl : ok = true := by rw [← ho2, decide_eq_true_eq]; exact .inl q1
            clear z1 z2 ho2 q1
            go_wp2_with fail
            go_meet
            exact ⟨(by first | rfl | rw [e1]), hS0, hb0⟩
          · have y1 : (r.toList == [27]) = false := by rw [z1, decide_eq_false_iff_not]; exact q1
            by_cases q2 : r.data.toList = [27, 40]
            · have y2 : (r.toList == [27, 40]) = true := by rw [z2, decide_eq_true_eq]; exact q2
              obtain rfl : ok = true := by rw [← ho2, decide_eq_true_eq]; exact .inr q2
              clear z1 z2 ho2 q1 q2
              go_wp2_with fail
              go_meet
              exact ⟨(by first | rfl | rw [e1]), hS0, hb0⟩
            · have y2 : (r.toList == [27, 40]) = false := by rw [z2, decide_eq_false_iff_not]; exact q2
              obtain rfl : ok = false := by rw [← ho2, decide_eq_false_iff_not]; rintro (h9 | h9); exact q1 h9; exact q2 h9
              clear z1 z2 ho2 q1 q2
              go_wp2_with fail
              go_meet
              exact ⟨(by first | rfl | rw [e1]), hS0, hb0⟩
        · rw [M.okC.eq_def, if_neg (by omega), if_neg (by omega), if_neg (by omega)] at ho2
          subst ho2
          clear hct hz h
          go_wp2_with fail
          go_meet
          exact ⟨(by first | rfl | rw [e1]), hS0, hb0⟩
    case rest =>
      obtain ⟨rfl, hS, hB⟩ := hcut
      have sc0 := hS.cell 0 _ rfl; have sc1 := hS.cell 1 _ rfl; have sc2 := hS.cell 2 _ rfl; have sc3 := hS.cell 3 _ rfl; have sc4 := hS.cell 4 _ rfl
      have hs2 : M.stateOk ⟨n, r.data.toList, sg, fr, st⟩ = !(decide (sg < 0 ∨ 2 < sg) || (decide (n ≠ 6) && (decide (sg ≠ 0) || fr)) || (decide (n ≠ 7) && st)) := rfl
      have key : ∀ b, M.stateOk ⟨n, r.data.toList, sg, fr, st⟩ = b → ok = true → k = if b = false then 4 else 0 := fun b hb ho => by rw [HK.out, ho, if_neg (by decide), hb]
      have KEY := Lib.hid key
      have K1 := Lib.hid (show ok = false → k = 1 from fun ho => by rw [HK.out, if_pos ho])
      clear key HK HO HI hS0 hb0 h
      cases ok with
      | false =>
        obtain rfl : k = 1 := K1.out rfl
        clear hs2
        go_wp2_with (first | (go_at_call 19; refine (between_to _ _ _ _ HB.out _).mono ?_; rintro e w' ⟨rfl, rfl⟩))
        go_ret
        exact ⟨rfl, hB⟩
      | true =>
        by_cases g1 : 0 ≤ sg ∧ sg ≤ 2
        · have HB := Lib.hid (show decide ((0 : Int) ≤ sg ∧ sg ≤ 2) = true by rw [decide_eq_true_eq]; exact g1)
          by_cases g3 : n = 6
          · subst g3
            cases st
            · obtain rfl : k = 0 := KEY.out true (by rw [hs2]; simp; omega) rfl
              clear hs2 g1
              go_wp2_with (first | (go_at_call 19; refine (between_to _ _ _ _ HB.out _).mono ?_; rintro e w' ⟨rfl, rfl⟩))
              go_ret
              exact ⟨rfl, hB⟩
            · obtain rfl : k = 4 := KEY.out false (by rw [hs2]; simp) rfl
              clear hs2 g1
              go_wp2_with (first | (go_at_call 19; refine (between_to _ _ _ _ HB.out _).mono ?_; rintro e w' ⟨rfl, rfl⟩))
              go_ret
              exact ⟨rfl, hB⟩
          · have e6 : (n != 6) = true := by simpa using g3
            cases fr
            · by_cases g4 : sg = 0
              · subst g4
                by_cases g5 : n = 7
                · subst g5
                  obtain rfl : k = 0 := KEY.out true (by rw [hs2]; simp) rfl
                  clear hs2 g1
                  go_wp2_with (first | (go_at_call 19; refine (between_to _ _ _ _ HB.out _).mono ?_; rintro e w' ⟨rfl, rfl⟩))
                  go_ret
                  exact ⟨rfl, hB⟩
                · have e7 : (n != 7) = true := by simpa using g5
                  cases st
                  · obtain rfl : k = 0 := KEY.out true (by rw [hs2]; simp) rfl
                    clear hs2 g3 g5 g1
                    go_wp2_with (first | (go_at_call 19; refine (between_to _ _ _ _ HB.out _).mono ?_; rintro e w' ⟨rfl, rfl⟩))
                    go_ret
                    exact ⟨rfl, hB⟩
                  · obtain rfl : k = 4 := KEY.out false (by rw [hs2]; simp [g5]) rfl
                    clear hs2 g3 g5 g1
                    go_wp2_with (first | (go_at_call 19; refine (between_to _ _ _ _ HB.out _).mono ?_; rintro e w' ⟨rfl, rfl⟩))
                    go_ret
                    exact ⟨rfl, hB⟩
              · have e4 : (sg != 0) = true := by simpa using g4
                obtain rfl : k = 4 := KEY.out false (by rw [hs2]; simp [g3, g4]) rfl
                clear hs2 g3 g4 g1
                go_wp2_with (first | (go_at_call 19; refine (between_to _ _ _ _ HB.out _).mono ?_; rintro e w' ⟨rfl, rfl⟩))
                go_ret
                exact ⟨rfl, hB⟩
            · obtain rfl : k = 4 := KEY.out false (by rw [hs2]; simp [g3]) rfl
              by_cases g4 : sg = 0
              · subst g4
                clear hs2 g3 g1
                go_wp2_with (first | (go_at_call 19; refine (between_to _ _ _ _ HB.out _).mono ?_; rintro e w' ⟨rfl, rfl⟩))
                go_ret
                exact ⟨rfl, hB⟩
              · have e4 : (sg != 0) = true := by simpa using g4
                clear hs2 g3 g4 g1
                go_wp2_with (first | (go_at_call 19; refine (between_to _ _ _ _ HB.out _).mono ?_; rintro e w' ⟨rfl, rfl⟩))
                go_ret
                exact ⟨rfl, hB⟩
        · have HB := Lib.hid (show decide ((0 : Int) ≤ sg ∧ sg ≤ 2) = false by rw [decide_eq_false_iff_not]; exact g1)
          obtain rfl : k = 4 := KEY.out false (by rw [hs2]; have : sg < 0 ∨ 2 < sg := by omega
                                                  simp [this]) rfl
          clear hs2 g1
          go_wp2_with (first | (go_at_call 19; refine (between_to _ _ _ _ HB.out _).mono ?_; rintro e w' ⟨rfl, rfl⟩))
          go_ret
          exact ⟨rfl, hB⟩
end Go.Proofs.Ytcgdecpjlggekaa

/-
  A region that draws its order, whose calls make memory of their own and hand back one value: one walk in the order of the text serves every order. The class of worlds: those in which nothing that is old has changed.
-/
namespace Go.Proofs.Ytcgdecpjlggekaa
open Go.RowKit

/-- The worlds in which nothing of w has changed. -/
def Up (w : World) : Type := { W : World // Bel w W }
def Up.v {w : World} (u : Up w) : World := u.1
theorem Up.b {w : World} (u : Up w) : Bel w u.v := u.2
instance {w : World} : Nonempty (Up w) := ⟨⟨w, Bel.refl w⟩⟩
theorem region_up {id : Nat} {Q : Exit → Act → World → Prop} {a : Act} {w : World} {l : List Oper} (hm : (Try.prog).follows .mixedOrders = true) (hB : Region.lexB .any l.toArray = true)
    (h : wpQuiet Try.prog l.toArray (fun w' => ∃ u : Up w, w' = u.v) (fun a' => ∀ w', (∃ u : Up w, w' = u.v) → Q .normal a' w') l a) : (Code.region id l.toArray true).wp Try.prog Q a w :=
  wp_region_quiet (C := fun w' => ∃ u : Up w, w' = u.v) hm hB ⟨⟨_, (Bel.refl w).drew⟩, rfl⟩ (by simpa using h)
/-- A contract of a call in such a region. -/
theorem up_call {f : FuncId} {args : Array Value} {w : World} {v : Value} (u : Up w) (h : Calls Try.prog f args u.v fun e w' => e = .returned v ∧ Bel u.v w') : Calls Try.prog f args u.v fun e w'' => e = .returned v ∧ ∃ u' : Up w, w'' = u'.v :=
  h.mono fun _ _ ⟨he, hb⟩ => ⟨he, ⟨⟨_, u.b.trans hb⟩, rfl⟩⟩
theorem Box.up {w : World} {g : Nat} {t : TypeId} {cs : List Value} (h : Box w g t cs) (i : Nat) (v : Value) (hv : cs[i]? = some v) (u : Up w) : u.v.cell? ⟨g, i, none⟩ = some v := (h.bel u.b).cell i v hv
end Go.Proofs.Ytcgdecpjlggekaa

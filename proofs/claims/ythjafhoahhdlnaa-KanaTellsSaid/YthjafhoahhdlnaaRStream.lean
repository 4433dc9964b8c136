/-
  The document's answers on streams: FeedOf.
-/
import Derived.Test.YthjafhoahhdlnaaStream4
import Derived.Test.YthjafhoahhdlnaaRKana3
import Derived.Test.YthjafhoahhdlnaaRSingle
import Derived.Test.YthjafhoahhdlnaaRUtf8d
import Derived.Test.YthjafhoahhdlnaaRUtf16
import Derived.Deep.Cut
import Derived.Deep.CutRange
import Derived.Deep.CutBlock
namespace Go.Proofs.Ythjafhoahhdlnaa
open Go.RowKit
set_option maxRecDepth 1000000

theorem rd8_to (s : ByteArray) (xs : List Int) (l : List UInt8) (h : M.told8 s.data.toList = (xs, l)) (hs : s.size ≤ 68719476735) (w : World) : Calls Try.prog 37 #[.string s] w fun e w' => ∃ v, e = .returned (.tuple #[v, .string ⟨l.toArray⟩]) ∧ Own w.heap.size 3 w' v (xs.map (Value.int .i64)) ∧ Bel w w' := by
  have := decodeUtf8_any s hs w; rw [h] at this; exact this
theorem rd16_to (big : Bool) (s : ByteArray) (xs : List Int) (l : List UInt8) (h : M.told16 big s.data.toList = (xs, l)) (hs : s.size ≤ 68719476735) (w : World) : Calls Try.prog 38 #[.bool big, .string s] w fun e w' => ∃ v, e = .returned (.tuple #[v, .string ⟨l.toArray⟩]) ∧ Own w.heap.size 3 w' v (xs.map (Value.int .i64)) ∧ Bel w w' := by
  have := decodeUtf16_any big s hs w; rw [h] at this; exact this
theorem rdS_to (user : Bool) (s : ByteArray) (xs : List Int) (h : M.decodeS user s.data.toList = xs) (hs : s.size ≤ 68719476735) (w : World) : Calls Try.prog 39 #[.bool user, .string s] w fun e w' => ∃ v, e = .returned v ∧ Own w.heap.size 3 w' v (xs.map (Value.int .i64)) ∧ Bel w w' := by
  have := decodeSingle_any user s w hs; rw [h] at this; exact this
theorem rdK_to (g : Int) (f : Bool) (s : ByteArray) (last : Bool) (xs : List Int) (g2 : Int) (f2 : Bool) (l : List UInt8) (h : M.toldK last g f s.data.toList = (xs, g2, f2, l)) (hs : s.size ≤ 68719476735) (w : World) : Calls Try.prog 40 #[.agg #[.int .i64 g, .bool f], .string s, .bool last] w fun e w' =>
    ∃ v, e = .returned (.tuple #[v, .agg #[.int .i64 g2, .bool f2], .string ⟨l.toArray⟩]) ∧ Own w.heap.size 3 w' v (xs.map (Value.int .i64)) ∧ Bel w w' := by
  have := decodeKana_any g f s last hs w; rw [h] at this; exact this
/-- What is answered in the end. -/
def endR (n : Int) (xs : List Int) (l : List UInt8) (sg : Int) (fr st : Bool) (last : Bool) : List Int × M.St := if last = true then (if l = [] then xs else xs ++ [65533], ⟨n, [], 0, false, false⟩) else (xs, ⟨n, l, sg, fr, st⟩)
/-- What the switch leaves. -/
def swR (d : M.St) (s : List UInt8) (last : Bool) : List Int × Int × Bool × Bool × List UInt8 :=
    if d.enc = 1 then ((M.told8 s).1, d.signs, d.fresh, d.stopped, (M.told8 s).2)
    else if d.enc = 2 ∨ d.enc = 3 then ((M.told16 (d.enc == 3) s).1, d.signs, d.fresh, d.stopped, (M.told16 (d.enc == 3) s).2)
    else if d.enc = 4 ∨ d.enc = 5 then (M.decodeS (d.enc == 5) s, d.signs, d.fresh, d.stopped, [])
    else if d.enc = 6 then ((M.toldK last d.signs d.fresh s).1, (M.toldK last d.signs d.fresh s).2.1, (M.toldK last d.signs d.fresh s).2.2.1, d.stopped, (M.toldK last d.signs d.fresh s).2.2.2)
    else if d.enc = 7 ∧ s ≠ [] ∧ d.stopped = false then ([65533], d.signs, d.fresh, true, [])
    else ([], d.signs, d.fresh, d.stopped, [])
theorem refM_swR (d : M.St) (b : List UInt8) (last : Bool) : M.refM d b last = endR d.enc (swR d (d.rest ++ b) last).1 (swR d (d.rest ++ b) last).2.2.2.2 (swR d (d.rest ++ b) last).2.1 (swR d (d.rest ++ b) last).2.2.1 (swR d (d.rest ++ b) last).2.2.2.1 last := by
  unfold M.refM endR swR
  cases last <;> rfl
theorem swR_len (d : M.St) (hn : M.isEnc d.enc = true) (s : List UInt8) (last : Bool) : (swR d s last).1.length ≤ s.length + 1 := by
  unfold swR
  rcases M.enc_cases d.enc hn with h1 | h1 | h1 | h1 | h1
  · rw [if_pos h1]; exact Nat.le_succ_of_le (M.told8_le s)
  · rw [if_neg (by omega), if_pos h1]
    have := (M.told16_len (d.enc == 3) _ s (Nat.le_refl _)).1
    simp only
    omega
  · rw [if_neg (by omega), if_neg (by omega), if_pos h1]; simp [M.decodeS]
  · rw [if_neg (by omega), if_neg (by omega), if_neg (by omega), if_pos h1]
    have := (M.toldK_rest last _ s d.signs d.fresh (Nat.le_refl _)).1
    simp only
    omega
  · rw [if_neg (by omega), if_neg (by omega), if_neg (by omega), if_neg (by omega)]
    split <;> simp
set_option maxHeartbeats 8000000 in
theorem feedOf_any (n : Int) (hn : M.isEnc n = true) (r : ByteArray) (sg : Int) (fr st : Bool) (b : ByteArray) (last : Bool) (hsz : r.size + b.size ≤ 68719476730) (xs : List Int) (d2 : M.St) (hd : M.refM ⟨n, r.data.toList, sg, fr, st⟩ b.data.toList last = (xs, d2)) (w : World) :
    Calls Try.prog 23 #[.agg #[.int .i64 n, .string r, .int .i64 sg, .bool fr, .bool st], .string b, .bool last] w fun e w' => ∃ v, e = .returned (.tuple #[v, stV d2]) ∧ Own w.heap.size 3 w' v (xs.map (Value.int .i64)) ∧ Bel w w' := by
  have hlen := swR_len ⟨n, r.data.toList, sg, fr, st⟩ hn (r ++ b).data.toList last
  rw [data_append, List.length_append, ← Lib.size_eq, ← Lib.size_eq] at hlen
  rw [refM_swR] at hd
  simp only at hd
  obtain ⟨⟨ys, sg2, fr2, st2, l⟩, hq⟩ : ∃ q, swR ⟨n, r.data.toList, sg, fr, st⟩ (r.data.toList ++ b.data.toList) last = q := ⟨_, rfl⟩
  rw [hq] at hd hlen
  simp only at hd hlen
  have HS := Lib.hid (show (r ++ b).size ≤ 68719476734 by rw [Lib.size_eq, data_append, List.length_append, ← Lib.size_eq, ← Lib.size_eq]; omega)
  have HQ := Lib.hid (show swR ⟨n, r.data.toList, sg, fr, st⟩ (r ++ b).data.toList last = (ys, sg2, fr2, st2, l) by rw [data_append]; exact hq)
  have hyl : ys.length ≤ 68719476732 := by omega
  have hS0 : Box ((w.alloc (.cells #[.int .i64 n, .string r, .int .i64 sg, .bool fr, .bool st] 40)).alloc (.cells #[.int .i64 0, .string ⟨#[]⟩, .int .i64 0, .bool false, .bool false] 40)) w.heap.size 40 [.int .i64 n, .string r, .int .i64 sg, .bool fr, .bool st] := (Box.new w _ _).bel ((Bel.refl _).alloc _)
  have hR0 : Box ((w.alloc (.cells #[.int .i64 n, .string r, .int .i64 sg, .bool fr, .bool st] 40)).alloc (.cells #[.int .i64 0, .string ⟨#[]⟩, .int .i64 0, .bool false, .bool false] 40)) (w.heap.size + 1) 40 [.int .i64 0, .string ⟨#[]⟩, .int .i64 0, .bool false, .bool false] := by have := Box.new (w.alloc (.cells #[.int .i64 n, .string r, .int .i64 sg, .bool fr, .bool st] 40)) 40 [.int .i64 0, .string ⟨#[]⟩, .int .i64 0, .bool false, .bool false]; simpa using this
  have hb0 : Bel w ((w.alloc (.cells #[.int .i64 n, .string r, .int .i64 sg, .bool fr, .bool st] 40)).alloc (.cells #[.int .i64 0, .string ⟨#[]⟩, .int .i64 0, .bool false, .bool false] 40)) := (by repeat (first | exact Bel.refl _ | refine Bel.drewN ?_ _ | refine Bel.drew ?_ | refine Bel.alloc ?_ _ | refine Bel.trans ?_ (by assumption) | refine Bel.setCell ?_ (by simp; omega) _))
  have HD := Lib.hid hd
  clear hq hlen hd
  go_enter Try.func23, Try.ntmps23
  go_upto_block 0 with fail
  go_cut [9, 10] from 11 to 74 (fun vo vr wx => vr = .string ⟨l.toArray⟩ ∧ Own (w.heap.size + 1 + 1) 3 wx vo (ys.map (Value.int .i64)) ∧ Box wx w.heap.size 40 [.int .i64 n, .string r, .int .i64 sg2, .bool fr2, .bool st2] ∧ Box wx (w.heap.size + 1) 40 [.int .i64 0, .string ⟨#[]⟩, .int .i64 0, .bool false, .bool false] ∧ Bel w wx)
  case first =>
    generalize (w.alloc (.cells #[.int .i64 n, .string r, .int .i64 sg, .bool fr, .bool st] 40)).alloc (.cells #[.int .i64 0, .string ⟨#[]⟩, .int .i64 0, .bool false, .bool false] 40) = P at *
    have hPs : w.heap.size + 1 + 1 ≤ P.heap.size := hR0.lt
    have hlS : w.heap.size < P.heap.size := by omega
    have hlR : w.heap.size + 1 < P.heap.size := by omega
    have sc0 := hS0.cell 0 _ rfl; have sc1 := hS0.cell 1 _ rfl; have sc2 := hS0.cell 2 _ rfl; have sc3 := hS0.cell 3 _ rfl; have sc4 := hS0.cell 4 _ rfl; have sf0 := hS0.frozen 0; have sf1 := hS0.frozen 1; have sf2 := hS0.frozen 2; have sf3 := hS0.frozen 3; have sf4 := hS0.frozen 4
    have hz := HQ.out
    clear HD HQ hyl hsz
    rcases M.enc_cases n hn with rfl | h1 | h1 | rfl | rfl
    · obtain ⟨⟨zs, l2⟩, ht⟩ : ∃ q, M.told8 (r ++ b).data.toList = q := ⟨_, rfl⟩
      rw [swR, if_pos rfl, ht] at hz
      simp only [Prod.mk.injEq] at hz
      obtain ⟨rfl, rfl, rfl, rfl, rfl⟩ := hz
      have HT := Lib.hid ht
      clear ht hn
      go_wp2_with (first | (go_at_call 37; refine (rd8_to _ _ _ HT.out (Nat.le_succ_of_le HS.out) _).mono ?_; rintro e w' ⟨v1, rfl, o1, b1⟩))
      go_meet
      exact ⟨rfl, o1.mono hPs, hS0.bel b1, hR0.bel b1, hb0.trans b1⟩
    · obtain ⟨⟨zs, l2⟩, ht⟩ : ∃ q, M.told16 (n == 3) (r ++ b).data.toList = q := ⟨_, rfl⟩
      rw [swR, if_neg (by simp only; omega), if_pos h1] at hz
      simp only [ht, Prod.mk.injEq] at hz
      obtain ⟨rfl, rfl, rfl, rfl, rfl⟩ := hz
      have HT := Lib.hid ht
      clear ht hn
      rcases h1 with rfl | rfl
      all_goals
        go_wp2_with (first | (go_at_call 38; refine (rd16_to _ _ _ _ HT.out (Nat.le_succ_of_le HS.out) _).mono ?_; rintro e w' ⟨v1, rfl, o1, b1⟩))
        go_meet
        exact ⟨rfl, o1.mono hPs, hS0.bel b1, hR0.bel b1, hb0.trans b1⟩
    · obtain ⟨zs, ht⟩ : ∃ q, M.decodeS (n == 5) (r ++ b).data.toList = q := ⟨_, rfl⟩
      rw [swR, if_neg (by simp only; omega), if_neg (by simp only; omega), if_pos h1] at hz
      simp only [ht, Prod.mk.injEq] at hz
      obtain ⟨rfl, rfl, rfl, rfl, rfl⟩ := hz
      have HT := Lib.hid ht
      clear ht hn
      rcases h1 with rfl | rfl
      all_goals
        go_wp2_with (first | (go_at_call 39; refine (rdS_to _ _ _ HT.out (Nat.le_succ_of_le HS.out) _).mono ?_; rintro e w' ⟨v1, rfl, o1, b1⟩))
        go_meet
        exact ⟨rfl, o1.mono hPs, hS0.bel b1, hR0.bel b1, hb0.trans b1⟩
    · obtain ⟨⟨zs, g2, f2, l2⟩, ht⟩ : ∃ q, M.toldK last sg fr (r ++ b).data.toList = q := ⟨_, rfl⟩
      rw [swR, if_neg (by simp), if_neg (by simp), if_neg (by simp), if_pos rfl] at hz
      simp only [ht, Prod.mk.injEq] at hz
      obtain ⟨rfl, rfl, rfl, rfl, rfl⟩ := hz
      have HT := Lib.hid ht
      clear ht hn
      have hSa := hS0.bel ((Bel.refl P).alloc (.cells #[.int .i64 0, .bool false] 66))
      have hRa := hR0.bel ((Bel.refl P).alloc (.cells #[.int .i64 0, .bool false] 66))
      have hZa := Box.new P 66 [.int .i64 0, .bool false]
      go_wp2_with (first | (go_at_call 40; refine (rdK_to _ _ _ _ _ _ _ _ HT.out (Nat.le_succ_of_le HS.out) _).mono ?_; rintro e w' ⟨v1, rfl, o1, b1⟩; have hS1 := hSa.bel b1; have hR1 := hRa.bel b1; have hZ1 := hZa.bel b1; have z0 := hZ1.cell 0 _ rfl; have z1 := hZ1.cell 1 _ rfl; have zf0 := hZ1.frozen 0; have zf1 := hZ1.frozen 1; have tc0 := hS1.cell 0 _ rfl; have tc1 := hS1.cell 1 _ rfl; have tc2 := hS1.cell 2 _ rfl; have tc3 := hS1.cell 3 _ rfl; have tc4 := hS1.cell 4 _ rfl; have tf0 := hS1.frozen 0; have tf1 := hS1.frozen 1; have tf2 := hS1.frozen 2; have tf3 := hS1.frozen 3; have tf4 := hS1.frozen 4))
      have hS2 := (hS1.far (p := ⟨P.heap.size, 0, none⟩) (Nat.ne_of_lt hlS) (.int .i64 g2)).far (p := ⟨P.heap.size, 1, none⟩) (Nat.ne_of_lt hlS) (.bool f2)
      have hR2 := (hR1.far (p := ⟨P.heap.size, 0, none⟩) (Nat.ne_of_lt hlR) (.int .i64 g2)).far (p := ⟨P.heap.size, 1, none⟩) (Nat.ne_of_lt hlR) (.bool f2)
      have hZ2 := (hZ1.set 0 (.int .i64 g2)).set 1 (.bool f2)
      have hO2 : Own (w.heap.size + 1 + 1) 3 _ v1 (zs.map (Value.int .i64)) := ((o1.setCell (p := ⟨P.heap.size, 0, none⟩) (by simp) (.int .i64 g2)).setCell (p := ⟨P.heap.size, 1, none⟩) (by simp) (.bool f2)).mono (by simp; omega)
      have hB2 := (((hb0.alloc (.cells #[.int .i64 0, .bool false] 66)).trans b1).setCell (p := ⟨P.heap.size, 0, none⟩) (Nat.le_of_lt hlS) (.int .i64 g2)).setCell (p := ⟨P.heap.size, 1, none⟩) (Nat.le_of_lt hlS) (.bool f2)
      clear z0 z1 zf0 zf1 tc0 tc1 tc2 tc3 tc4 tf0 tf1 tf2 tf3 tf4 sc0 sc1 sc2 sc3 sc4 sf0 sf1 sf2 sf3 sf4 hS1 hR1 hZ1 hSa hRa hZa o1 b1 hS0 hR0 hb0
      generalize (w'.setCell ⟨P.heap.size, 0, none⟩ (.int .i64 g2)).setCell ⟨P.heap.size, 1, none⟩ (.bool f2) = W at *
      generalize P.heap.size = q at *
      have z0 := hZ2.cell 0 _ rfl
      have z1 := hZ2.cell 1 _ rfl
      have tc0 := hS2.cell 0 _ rfl; have tc1 := hS2.cell 1 _ rfl; have tc2 := hS2.cell 2 _ rfl; have tc3 := hS2.cell 3 _ rfl; have tc4 := hS2.cell 4 _ rfl; have tf0 := hS2.frozen 0; have tf1 := hS2.frozen 1; have tf2 := hS2.frozen 2; have tf3 := hS2.frozen 3; have tf4 := hS2.frozen 4
      go_region
      all_goals
        go_wp2_with fail
        go_meet
        first
          | exact ⟨rfl, (hO2.setCell (p := ⟨w.heap.size, 2, none⟩) (by show w.heap.size < w.heap.size + 1 + 1; omega) _).setCell (p := ⟨w.heap.size, 3, none⟩) (by show w.heap.size < w.heap.size + 1 + 1; omega) _, (hS2.set 2 _).set 3 _, (hR2.far (p := ⟨w.heap.size, 2, none⟩) (by simp) _).far (p := ⟨w.heap.size, 3, none⟩) (by simp) _, ((hB2.setCell (p := ⟨w.heap.size, 2, none⟩) (Nat.le_refl _) _).setCell (p := ⟨w.heap.size, 3, none⟩) (Nat.le_refl _) _).drew⟩
          | exact ⟨rfl, (hO2.setCell (p := ⟨w.heap.size, 3, none⟩) (by show w.heap.size < w.heap.size + 1 + 1; omega) _).setCell (p := ⟨w.heap.size, 2, none⟩) (by show w.heap.size < w.heap.size + 1 + 1; omega) _, (hS2.set 3 _).set 2 _, (hR2.far (p := ⟨w.heap.size, 3, none⟩) (by simp) _).far (p := ⟨w.heap.size, 2, none⟩) (by simp) _, ((hB2.setCell (p := ⟨w.heap.size, 3, none⟩) (Nat.le_refl _) _).setCell (p := ⟨w.heap.size, 2, none⟩) (Nat.le_refl _) _).drew⟩
          | trace_state
    · have hz2 : swR ⟨7, r.data.toList, sg, fr, st⟩ (r ++ b).data.toList last = if (r ++ b).data.toList ≠ [] ∧ st = false then ([65533], sg, fr, true, []) else ([], sg, fr, st, []) := by
        rw [swR, if_neg (by simp), if_neg (by simp), if_neg (by simp), if_neg (by simp)]
        simp
      rw [hz2] at hz
      by_cases he : (r ++ b).data.toList = []
      · rw [if_neg (fun h9 => h9.1 he)] at hz
        simp only [Prod.mk.injEq] at hz
        obtain ⟨rfl, rfl, rfl, rfl, rfl⟩ := hz
        have e1 : (!(r ++ b).toList.isEmpty) = false := by rw [Lib.toList_data, he]; rfl
        have e2 : (r ++ b).toList.isEmpty = true := by rw [Lib.toList_data, he]; rfl
        clear hn hz2 he
        go_wp2_with fail
        go_meet
        exact ⟨rfl, Own.nil _ _ _, hS0, hR0, hb0⟩
      · have e1 : (!(r ++ b).toList.isEmpty) = true := by rw [Lib.toList_data]; simpa using he
        have e2 : (r ++ b).toList.isEmpty = false := by rw [Lib.toList_data]; simpa using he
        cases st
        · rw [if_pos ⟨he, rfl⟩] at hz
          simp only [Prod.mk.injEq] at hz
          obtain ⟨rfl, rfl, rfl, rfl, rfl⟩ := hz
          clear hn hz2 he
          go_wp2_with fail
          go_meet
          have hO := Own.made (B := w.heap.size + 1 + 1) (e := 3) (P.setCell ⟨w.heap.size, 4, none⟩ (.bool true)) [.int .i64 65533] (by simpa using hPs) (by simp [maxLen])
          simp only [World.size_setCell, List.length_singleton] at hO
          exact ⟨rfl, hO, (hS0.set 4 _).bel ((Bel.refl _).alloc _), (hR0.far (p := ⟨w.heap.size, 4, none⟩) (by simp) _).bel ((Bel.refl _).alloc _), (hb0.setCell (p := ⟨w.heap.size, 4, none⟩) (Nat.le_refl _) _).alloc _⟩
        · rw [if_neg (by simp)] at hz
          simp only [Prod.mk.injEq] at hz
          obtain ⟨rfl, rfl, rfl, rfl, rfl⟩ := hz
          clear hn hz2 he
          go_wp2_with fail
          go_meet
          exact ⟨rfl, Own.nil _ _ _, hS0, hR0, hb0⟩
  case rest =>
    obtain ⟨rfl, hO, hS, hR, hB⟩ := hcut
    have hs1 : w.heap.size + 1 + 1 ≤ wc.heap.size := hR.lt
    have sc0 := hS.cell 0 _ rfl; have sc1 := hS.cell 1 _ rfl; have sc2 := hS.cell 2 _ rfl; have sc3 := hS.cell 3 _ rfl; have sc4 := hS.cell 4 _ rfl; have sf0 := hS.frozen 0; have sf1 := hS.frozen 1; have sf2 := hS.frozen 2; have sf3 := hS.frozen 3; have sf4 := hS.frozen 4
    have rc0 := hR.cell 0 _ rfl; have rc1 := hR.cell 1 _ rfl; have rc2 := hR.cell 2 _ rfl; have rc3 := hR.cell 3 _ rfl; have rc4 := hR.cell 4 _ rfl; have rf0 := hR.frozen 0; have rf1 := hR.frozen 1; have rf2 := hR.frozen 2; have rf3 := hR.frozen 3; have rf4 := hR.frozen 4
    have hd := HD.out
    clear HQ HD hS0 hR0 hb0 HS hsz hn
    cases last
    · rw [endR, if_neg (by decide)] at hd
      injection hd with hd1 hd2
      subst hd1
      subst hd2
      go_wp2_with fail
      go_region
      go_wp2_with fail
      have hF := Box.drew ((((((hR.far (p := ⟨w.heap.size, 1, none⟩) (by simp) (.string ⟨l.toArray⟩)).set 0 (.int .i64 n)).set 1 (.string ⟨l.toArray⟩)).set 2 (.int .i64 sg2)).set 3 (.bool fr2)).set 4 (.bool st2))
      have y0 := hF.cell 0 _ rfl
      have y1 := hF.cell 1 _ rfl
      have y2 := hF.cell 2 _ rfl
      have y3 := hF.cell 3 _ rfl
      have y4 := hF.cell 4 _ rfl
      refine bodyPost_ret (v := .tuple #[u9, .agg #[.int .i64 n, .string ⟨l.toArray⟩, .int .i64 sg2, .bool fr2, .bool st2]]) (by simp [results, Try.results23, go_sem, y0, y1, y2, y3, y4]) rfl ?_
      exact ⟨_, rfl, (((((((hO.setCell (p := ⟨w.heap.size, 1, none⟩) (by show w.heap.size < w.heap.size + 1 + 1; omega) _).setCell (p := ⟨w.heap.size + 1, 0, none⟩) (Nat.lt_succ_self _) _).setCell (p := ⟨w.heap.size + 1, 1, none⟩) (Nat.lt_succ_self _) _).setCell (p := ⟨w.heap.size + 1, 2, none⟩) (Nat.lt_succ_self _) _).setCell (p := ⟨w.heap.size + 1, 3, none⟩) (Nat.lt_succ_self _) _).setCell (p := ⟨w.heap.size + 1, 4, none⟩) (Nat.lt_succ_self _) _)).drew.mono (by omega), (((((((hB.setCell (p := ⟨w.heap.size, 1, none⟩) (Nat.le_refl _) _).setCell (p := ⟨w.heap.size + 1, 0, none⟩) (Nat.le_succ _) _).setCell (p := ⟨w.heap.size + 1, 1, none⟩) (Nat.le_succ _) _).setCell (p := ⟨w.heap.size + 1, 2, none⟩) (Nat.le_succ _) _).setCell (p := ⟨w.heap.size + 1, 3, none⟩) (Nat.le_succ _) _).setCell (p := ⟨w.heap.size + 1, 4, none⟩) (Nat.le_succ _) _)).drew⟩
    · rw [endR, if_pos rfl] at hd
      by_cases hl : l = []
      · subst hl
        rw [if_pos rfl] at hd
        injection hd with hd1 hd2
        subst hd1
        subst hd2
        go_wp2_with fail
        go_region
        go_wp2_with fail
        have hF := Box.drew (((((((((((hR.far (p := ⟨w.heap.size, 1, none⟩) (by simp) (.string ⟨#[]⟩)).far (p := ⟨w.heap.size, 0, none⟩) (by simp) (.int .i64 n)).far (p := ⟨w.heap.size, 1, none⟩) (by simp) (.string ⟨#[]⟩)).far (p := ⟨w.heap.size, 2, none⟩) (by simp) (.int .i64 0)).far (p := ⟨w.heap.size, 3, none⟩) (by simp) (.bool false)).far (p := ⟨w.heap.size, 4, none⟩) (by simp) (.bool false)).set 0 (.int .i64 n)).set 1 (.string ⟨#[]⟩)).set 2 (.int .i64 0)).set 3 (.bool false)).set 4 (.bool false))
        have y0 := hF.cell 0 _ rfl
        have y1 := hF.cell 1 _ rfl
        have y2 := hF.cell 2 _ rfl
        have y3 := hF.cell 3 _ rfl
        have y4 := hF.cell 4 _ rfl
        refine bodyPost_ret (v := .tuple #[u9, .agg #[.int .i64 n, .string ⟨#[]⟩, .int .i64 0, .bool false, .bool false]]) (by simp [results, Try.results23, go_sem, y0, y1, y2, y3, y4]) rfl ?_
        exact ⟨_, rfl, ((((((((((((hO.setCell (p := ⟨w.heap.size, 1, none⟩) (by show w.heap.size < w.heap.size + 1 + 1; omega) _).setCell (p := ⟨w.heap.size, 0, none⟩) (by show w.heap.size < w.heap.size + 1 + 1; omega) _).setCell (p := ⟨w.heap.size, 1, none⟩) (by show w.heap.size < w.heap.size + 1 + 1; omega) _).setCell (p := ⟨w.heap.size, 2, none⟩) (by show w.heap.size < w.heap.size + 1 + 1; omega) _).setCell (p := ⟨w.heap.size, 3, none⟩) (by show w.heap.size < w.heap.size + 1 + 1; omega) _).setCell (p := ⟨w.heap.size, 4, none⟩) (by show w.heap.size < w.heap.size + 1 + 1; omega) _).setCell (p := ⟨w.heap.size + 1, 0, none⟩) (Nat.lt_succ_self _) _).setCell (p := ⟨w.heap.size + 1, 1, none⟩) (Nat.lt_succ_self _) _).setCell (p := ⟨w.heap.size + 1, 2, none⟩) (Nat.lt_succ_self _) _).setCell (p := ⟨w.heap.size + 1, 3, none⟩) (Nat.lt_succ_self _) _).setCell (p := ⟨w.heap.size + 1, 4, none⟩) (Nat.lt_succ_self _) _)).drew.mono (by omega), ((((((((((((hB.setCell (p := ⟨w.heap.size, 1, none⟩) (Nat.le_refl _) _).setCell (p := ⟨w.heap.size, 0, none⟩) (Nat.le_refl _) _).setCell (p := ⟨w.heap.size, 1, none⟩) (Nat.le_refl _) _).setCell (p := ⟨w.heap.size, 2, none⟩) (Nat.le_refl _) _).setCell (p := ⟨w.heap.size, 3, none⟩) (Nat.le_refl _) _).setCell (p := ⟨w.heap.size, 4, none⟩) (Nat.le_refl _) _).setCell (p := ⟨w.heap.size + 1, 0, none⟩) (Nat.le_succ _) _).setCell (p := ⟨w.heap.size + 1, 1, none⟩) (Nat.le_succ _) _).setCell (p := ⟨w.heap.size + 1, 2, none⟩) (Nat.le_succ _) _).setCell (p := ⟨w.heap.size + 1, 3, none⟩) (Nat.le_succ _) _).setCell (p := ⟨w.heap.size + 1, 4, none⟩) (Nat.le_succ _) _)).drew⟩
      · rw [if_neg hl] at hd
        injection hd with hd1 hd2
        subst hd1
        subst hd2
        have e1 : (!l.isEmpty) = true := by simpa using hl
        have e2 : l.isEmpty = false := by simpa using hl
        have o1b := hO.setCell (p := ⟨w.heap.size, 1, none⟩) (by show w.heap.size < w.heap.size + 1 + 1; omega) (.string ⟨l.toArray⟩)
        clear hl
        go_wp2_with (first | (at_builtin; refine wpList_app rfl (.tmp 80) (.tmp 81) 22 rfl elemInt (by decide) (w.heap.size + 1 + 1) _ _ _ rfl (by rw [World.size_setCell]; rfl) o1b rfl (by simp; omega) (by simp; omega) ?_; intro v3 w3 o3 b3; have hS3 := Box.upto (B := w.heap.size + 1 + 1) (hS.set 1 (.string ⟨l.toArray⟩)) b3 (by omega); have hR3 := Box.upto (B := w.heap.size + 1 + 1) (hR.far (p := ⟨w.heap.size, 1, none⟩) (by simp) (.string ⟨l.toArray⟩)) b3 (by omega); have tc0 := hS3.cell 0 _ rfl; have tc1 := hS3.cell 1 _ rfl; have tc2 := hS3.cell 2 _ rfl; have tc3 := hS3.cell 3 _ rfl; have tc4 := hS3.cell 4 _ rfl; have tf0 := hS3.frozen 0; have tf1 := hS3.frozen 1; have tf2 := hS3.frozen 2; have tf3 := hS3.frozen 3; have tf4 := hS3.frozen 4; have uc0 := hR3.cell 0 _ rfl; have uc1 := hR3.cell 1 _ rfl; have uc2 := hR3.cell 2 _ rfl; have uc3 := hR3.cell 3 _ rfl; have uc4 := hR3.cell 4 _ rfl; have uf0 := hR3.frozen 0; have uf1 := hR3.frozen 1; have uf2 := hR3.frozen 2; have uf3 := hR3.frozen 3; have uf4 := hR3.frozen 4))
        go_region
        go_wp2_with fail
        have o3b : Own (w.heap.size + 1 + 1) 3 w3 v3 ((ys ++ [65533]).map (Value.int .i64)) := by rw [List.map_append]; exact o3
        have hB3 : Bel w w3 := Bel.upto (hB.setCell (p := ⟨w.heap.size, 1, none⟩) (Nat.le_refl _) _) b3 (by omega)
        have hF := Box.drew ((((((((((hR3.far (p := ⟨w.heap.size, 0, none⟩) (by simp) (.int .i64 n)).far (p := ⟨w.heap.size, 1, none⟩) (by simp) (.string ⟨#[]⟩)).far (p := ⟨w.heap.size, 2, none⟩) (by simp) (.int .i64 0)).far (p := ⟨w.heap.size, 3, none⟩) (by simp) (.bool false)).far (p := ⟨w.heap.size, 4, none⟩) (by simp) (.bool false)).set 0 (.int .i64 n)).set 1 (.string ⟨#[]⟩)).set 2 (.int .i64 0)).set 3 (.bool false)).set 4 (.bool false))
        have y0 := hF.cell 0 _ rfl
        have y1 := hF.cell 1 _ rfl
        have y2 := hF.cell 2 _ rfl
        have y3 := hF.cell 3 _ rfl
        have y4 := hF.cell 4 _ rfl
        refine bodyPost_ret (v := .tuple #[v3, .agg #[.int .i64 n, .string ⟨#[]⟩, .int .i64 0, .bool false, .bool false]]) (by simp [results, Try.results23, go_sem, y0, y1, y2, y3, y4]) rfl ?_
        exact ⟨_, rfl, (((((((((((o3b.setCell (p := ⟨w.heap.size, 0, none⟩) (by show w.heap.size < w.heap.size + 1 + 1; omega) _).setCell (p := ⟨w.heap.size, 1, none⟩) (by show w.heap.size < w.heap.size + 1 + 1; omega) _).setCell (p := ⟨w.heap.size, 2, none⟩) (by show w.heap.size < w.heap.size + 1 + 1; omega) _).setCell (p := ⟨w.heap.size, 3, none⟩) (by show w.heap.size < w.heap.size + 1 + 1; omega) _).setCell (p := ⟨w.heap.size, 4, none⟩) (by show w.heap.size < w.heap.size + 1 + 1; omega) _).setCell (p := ⟨w.heap.size + 1, 0, none⟩) (Nat.lt_succ_self _) _).setCell (p := ⟨w.heap.size + 1, 1, none⟩) (Nat.lt_succ_self _) _).setCell (p := ⟨w.heap.size + 1, 2, none⟩) (Nat.lt_succ_self _) _).setCell (p := ⟨w.heap.size + 1, 3, none⟩) (Nat.lt_succ_self _) _).setCell (p := ⟨w.heap.size + 1, 4, none⟩) (Nat.lt_succ_self _) _)).drew.mono (by omega), (((((((((((hB3.setCell (p := ⟨w.heap.size, 0, none⟩) (Nat.le_refl _) _).setCell (p := ⟨w.heap.size, 1, none⟩) (Nat.le_refl _) _).setCell (p := ⟨w.heap.size, 2, none⟩) (Nat.le_refl _) _).setCell (p := ⟨w.heap.size, 3, none⟩) (Nat.le_refl _) _).setCell (p := ⟨w.heap.size, 4, none⟩) (Nat.le_refl _) _).setCell (p := ⟨w.heap.size + 1, 0, none⟩) (Nat.le_succ _) _).setCell (p := ⟨w.heap.size + 1, 1, none⟩) (Nat.le_succ _) _).setCell (p := ⟨w.heap.size + 1, 2, none⟩) (Nat.le_succ _) _).setCell (p := ⟨w.heap.size + 1, 3, none⟩) (Nat.le_succ _) _).setCell (p := ⟨w.heap.size + 1, 4, none⟩) (Nat.le_succ _) _)).drew⟩
theorem decodeOf_any (n : Int) (hn : M.isEnc n = true) (s : ByteArray) (hs : s.size ≤ 3000) (w : World) : Calls Try.prog 15 #[.int .i64 n, .string s] w fun e w' => ∃ v, e = .returned v ∧ Own w.heap.size 3 w' v ((M.allE n s.data.toList).map (Value.int .i64)) ∧ Bel w w' := by
  have hd : M.refM ⟨n, (⟨#[]⟩ : ByteArray).data.toList, 0, false, false⟩ s.data.toList true = (M.allE n s.data.toList, ⟨n, [], 0, false, false⟩) := by
    have h1 := M.ref_raw (M.opn n) (M.right_opn n hn) s.data.toList true
    have h2 := M.raw_all n hn s.data.toList
    have h3 := M.raw_last (M.opn n) s.data.toList
    rw [show M.refM ⟨n, (⟨#[]⟩ : ByteArray).data.toList, 0, false, false⟩ s.data.toList true = M.rawM (M.opn n) s.data.toList true from h1]
    exact Prod.ext h2 h3
  have HD := Lib.hid hd
  have HN := Lib.hid hn
  clear hd hn
  go_enter Try.func15, Try.ntmps15
  go_wp2_with (first | (go_at_call 23; refine (feedOf_any n HN.out ⟨#[]⟩ 0 false false s true (by have : (⟨#[]⟩ : ByteArray).size = 0 := rfl; omega) _ _ HD.out _).mono ?_; rintro e w1 ⟨v, rfl, ho, hb⟩; simp only [stV]))
  go_ret
  exact ⟨_, rfl, by first | assumption | exact ho.alloc _, by first | assumption | exact hb.alloc _⟩
end Go.Proofs.Ythjafhoahhdlnaa

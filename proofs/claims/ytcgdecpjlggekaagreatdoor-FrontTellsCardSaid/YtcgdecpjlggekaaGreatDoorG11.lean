/-
  Texts of the proof, laid together: RStream, RStream2, FrontR2. No condition of its own.
-/
import Derived.Test.YtcgdecpjlggekaaGreatDoorG6
import Derived.Test.YtcgdecpjlggekaaGreatDoorG10
import Derived.Test.YtcgdecpjlggekaaGreatDoorG9
import Derived.Deep.Cut
import Derived.Deep.CutRange
import Derived.Deep.CutBlock
import Derived.Test.YtcgdecpjlggekaaGreatDoorG5
import Derived.Test.YtcgdecpjlggekaaGreatDoorG3

/-
  The document's answers on streams: FeedOf.
-/
namespace Go.Proofs.YtcgdecpjlggekaaGreatDoor
open Go.RowKit
set_option maxRecDepth 1000000

theorem rd8_to (s : ByteArray) (xs : List Int) (l : List UInt8) (h : M.told8 s.data.toList = (xs, l)) (hs : s.size ≤ 68719476735) (w : World) : Calls Tryz.prog 57 #[.string s] w fun e w' => ∃ v, e = .returned (.tuple #[v, .string ⟨l.toArray⟩]) ∧ Own w.heap.size 3 w' v (xs.map (Value.int .i64)) ∧ Bel w w' := by
  have := decodeUtf8_any s hs w; rw [h] at this; exact this
theorem rd16_to (big : Bool) (s : ByteArray) (xs : List Int) (l : List UInt8) (h : M.told16 big s.data.toList = (xs, l)) (hs : s.size ≤ 68719476735) (w : World) : Calls Tryz.prog 58 #[.bool big, .string s] w fun e w' => ∃ v, e = .returned (.tuple #[v, .string ⟨l.toArray⟩]) ∧ Own w.heap.size 3 w' v (xs.map (Value.int .i64)) ∧ Bel w w' := by
  have := decodeUtf16_any big s hs w; rw [h] at this; exact this
theorem rdS_to (user : Bool) (s : ByteArray) (xs : List Int) (h : M.decodeS user s.data.toList = xs) (hs : s.size ≤ 68719476735) (w : World) : Calls Tryz.prog 59 #[.bool user, .string s] w fun e w' => ∃ v, e = .returned v ∧ Own w.heap.size 3 w' v (xs.map (Value.int .i64)) ∧ Bel w w' := by
  have := decodeSingle_any user s w hs; rw [h] at this; exact this
theorem rdK_to (g : Int) (f : Bool) (s : ByteArray) (last : Bool) (xs : List Int) (g2 : Int) (f2 : Bool) (l : List UInt8) (h : M.toldK last g f s.data.toList = (xs, g2, f2, l)) (hs : s.size ≤ 68719476735) (w : World) : Calls Tryz.prog 60 #[.agg #[.int .i64 g, .bool f], .string s, .bool last] w fun e w' =>
    ∃ v, e = .returned (.tuple #[v, .agg #[.int .i64 g2, .bool f2], .string ⟨l.toArray⟩]) ∧ Own w.heap.size 3 w' v (xs.map (Value.int .i64)) ∧ Bel w w' := by
  have := decodeKana_any g f s last hs w; rw [h] at this; exact this
/-- What is answered in the end. -/
def endR (n : Int) (xs : List Int) (l : List UInt8) (sg : Int) (fr st : Bool) (last : Bool) : List Int × M.St := if last = true then (if l = [] then xs else xs ++ [65533], ⟨n, [], 0, false, false⟩) else (xs, ⟨n, l, sg, fr, st⟩)
/-- What the switch leaves. -/
def swR (d : M.St) (s : List UInt8) (last : Bool) : List Int × Int × Bool × Bool × List UInt8 :=
    if d.enc = 1 then ((M.told8 s).1, d.signs, d.fresh, d.stopped, (M.told8 s).2)
    else if d.enc = 2 ∨ d.enc = 3 then ((M.told16 (d.enc == 3) s).1, d.signs, d.fresh, d.stopped, (M.told16 (d.enc == 3) s).2)
    else if d.enc = 4 ∨ d.enc = 5 then (M.decodeS (d.enc == 5) s, d.signs, d.fresh, d.stopped, [])
    else if d.enc = 6 then ((M.toldK last d.signs d.fresh s).1, (M.toldK last d.signs d.fresh s).2.1, (M.toldK last d.signs d.fresh s).2.2.1, d.stopped, (M.toldK last d.signs d.fresh s).2.2.2)
    else if d.enc = 7 ∧ s ≠ [] ∧ d.stopped = false then ([65533], d.signs, d.fresh, true, [])
    else ([], d.signs, d.fresh, d.stopped, [])
theorem refM_swR (d : M.St) (b : List UInt8) (last : Bool) : M.refM d b last = endR d.enc (swR d (d.rest ++ b) last).1 (swR d (d.rest ++ b) last).2.2.2.2 (swR d (d.rest ++ b) last).2.1 (swR d (d.rest ++ b) last).2.2.1 (swR d (d.rest ++ b) last).2.2.2.1 last := by
  unfold M.refM endR swR
  cases last <;> rfl
theorem swR_len (d : M.St) (hn : M.isEnc d.enc = true) (s : List UInt8) (last : Bool) : (swR d s last).1.length ≤ s.length + 1 := by
  unfold swR
  rcases M.enc_cases d.enc hn with h1 | h1 | h1 | h1 | h1
  · rw [if_pos h1]; exact Nat.le_succ_of_le (M.told8_le s)
  · rw [if_neg (by omega), if_pos h1]
    have := (M.told16_len (d.enc == 3) _ s (Nat.le_refl _)).1
    simp only
    omega
  · rw [if_neg (by omega), if_neg (by omega), if_pos h1]; simp [M.decodeS]
  · rw [if_neg (by omega), if_neg (by omega), if_neg (by omega), if_pos h1]
    have := (M.toldK_rest last _ s d.signs d.fresh (Nat.le_refl _)).1
    simp only
    omega
  · rw [if_neg (by omega), if_neg (by omega), if_neg (by omega), if_neg (by omega)]
    split <;> simp
set_option maxHeartbeats 8000000 in
theorem feedOf_any (n : Int) (hn : M.isEnc n = true) (r : ByteArray) (sg : Int) (fr st : Bool) (b : ByteArray) (last : Bool) (hsz : r.size + b.size ≤ 68719476730) (xs : List Int) (d2 : M.St) (hd : M.refM ⟨n, r.data.toList, sg, fr, st⟩ b.data.toList last = (xs, d2)) (w : World) :
    Calls Tryz.prog 30 #[.agg #[.int .i64 n, .string r, .int .i64 sg, .bool fr, .bool st], .string b, .bool last] w fun e w' => ∃ v, e = .returned (.tuple #[v, stV d2]) ∧ Own w.heap.size 3 w' v (xs.map (Value.int .i64)) ∧ Bel w w' := by
  have hlen := swR_len ⟨n, r.data.toList, sg, fr, st⟩ hn (r ++ b).data.toList last
  rw [data_append, List.length_append, ← Lib.size_eq, ← Lib.size_eq] at hlen
  rw [refM_swR] at hd
  simp only at hd
  obtain ⟨⟨ys, sg2, fr2, st2, l⟩, hq⟩ : ∃ q, swR ⟨n, r.data.toList, sg, fr, st⟩ (r.data.toList ++ b.data.toList) last = q := ⟨_, rfl⟩
  rw [hq] at hd hlen
  simp only at hd hlen
  have HS := Lib.hid (show (r ++ b).size ≤ 68719476734 by rw [Lib.size_eq, data_append, List.length_append, ← Lib.size_eq, ← Lib.size_eq]; omega)
  have HQ := Lib.hid (show swR ⟨n, r.data.toList, sg, fr, st⟩ (r ++ b).data.toList last = (ys, sg2, fr2, st2, l) by rw [data_append]; exact hq)
  have hyl : ys.length ≤ 68719476732 := by omega
  have hS0 : Box ((w.alloc (.cells #[.int .i64 n, .string r, .int .i64 sg, .bool fr, .bool st] 23)).alloc (.cells #[.int .i64 0, .string ⟨#[]⟩, .int .i64 0, .bool false, .bool false] 23)) w.heap.size 23 [.int .i64 n, .string r, .int .i64 sg, .bool fr, .bool st] := (Box.new w _ _).bel ((Bel.refl _).alloc _)
  have hR0 : Box ((w.alloc (.cells #[.int .i64 n, .string r, .int .i64 sg, .bool fr, .bool st] 23)).alloc (.cells #[.int .i64 0, .string ⟨#[]⟩, .int .i64 0, .bool false, .bool false] 23)) (w.heap.size + 1) 23 [.int .i64 0, .string ⟨#[]⟩, .int .i64 0, .bool false, .bool false] := by have := Box.new (w.alloc (.cells #[.int .i64 n, .string r, .int .i64 sg, .bool fr, .bool st] 23)) 23 [.int .i64 0, .string ⟨#[]⟩, .int .i64 0, .bool false, .bool false]; simpa using this
  have hb0 : Bel w ((w.alloc (.cells #[.int .i64 n, .string r, .int .i64 sg, .bool fr, .bool st] 23)).alloc (.cells #[.int .i64 0, .string ⟨#[]⟩, .int .i64 0, .bool false, .bool false] 23)) := (by repeat (first | exact Bel.refl _ | refine Bel.drewN ?_ _ | refine Bel.drew ?_ | refine Bel.alloc ?_ _ | refine Bel.trans ?_ (by assumption) | refine Bel.setCell ?_ (by simp; omega) _))
  have HD := Lib.hid hd
  clear hq hlen hd
  go_enter Tryz.func30, Tryz.ntmps30
  go_upto_block 0 with fail
  go_cut [9, 10] from 11 to 74 (fun vo vr wx => vr = .string ⟨l.toArray⟩ ∧ Own (w.heap.size + 1 + 1) 3 wx vo (ys.map (Value.int .i64)) ∧ Box wx w.heap.size 23 [.int .i64 n, .string r, .int .i64 sg2, .bool fr2, .bool st2] ∧ Box wx (w.heap.size + 1) 23 [.int .i64 0, .string ⟨#[]⟩, .int .i64 0, .bool false, .bool false] ∧ Bel w wx)
  case first =>
    generalize (w.alloc (.cells #[.int .i64 n, .string r, .int .i64 sg, .bool fr, .bool st] 23)).alloc (.cells #[.int .i64 0, .string ⟨#[]⟩, .int .i64 0, .bool false, .bool false] 23) = P at *
    have hPs : w.heap.size + 1 + 1 ≤ P.heap.size := hR0.lt
    have hlS : w.heap.size < P.heap.size := by omega
    have hlR : w.heap.size + 1 < P.heap.size := by omega
    have sc0 := hS0.cell 0 _ rfl; have sc1 := hS0.cell 1 _ rfl; have sc2 := hS0.cell 2 _ rfl; have sc3 := hS0.cell 3 _ rfl; have sc4 := hS0.cell 4 _ rfl; have sf0 := hS0.frozen 0; have sf1 := hS0.frozen 1; have sf2 := hS0.frozen 2; have sf3 := hS0.frozen 3; have sf4 := hS0.frozen 4
    have hz := HQ.out
    clear HD HQ hyl hsz
    rcases M.enc_cases n hn with rfl | h1 | h1 | rfl | rfl
    · obtain ⟨⟨zs, l2⟩, ht⟩ : ∃ q, M.told8 (r ++ b).data.toList = q := ⟨_, rfl⟩
      rw [swR, if_pos rfl, ht] at hz
      simp only [Prod.mk.injEq] at hz
      obtain ⟨rfl, rfl, rfl, rfl, rfl⟩ := hz
      have HT := Lib.hid ht
      clear ht hn
      go_wp2_with (first | (go_at_call 57; refine (rd8_to _ _ _ HT.out (Nat.le_succ_of_le HS.out) _).mono ?_; rintro e w' ⟨v1, rfl, o1, b1⟩))
      go_meet
      exact ⟨rfl, o1.mono hPs, hS0.bel b1, hR0.bel b1, hb0.trans b1⟩
    · obtain ⟨⟨zs, l2⟩, ht⟩ : ∃ q, M.told16 (n == 3) (r ++ b).data.toList = q := ⟨_, rfl⟩
      rw [swR, if_neg (by simp only; omega), if_pos h1] at hz
      simp only [ht, Prod.mk.injEq] at hz
      obtain ⟨rfl, rfl, rfl, rfl, rfl⟩ := hz
      have HT := Lib.hid ht
      clear ht hn
      rcases h1 with rfl | rfl
      all_goals
        go_wp2_with (first | (go_at_call 58; refine (rd16_to _ _ _ _ HT.out (Nat.le_succ_of_le HS.out) _).mono ?_; rintro e w' ⟨v1, rfl, o1, b1⟩))
        go_meet
        exact ⟨rfl, o1.mono hPs, hS0.bel b1, hR0.bel b1, hb0.trans b1⟩
    · obtain ⟨zs, ht⟩ : ∃ q, M.decodeS (n == 5) (r ++ b).data.toList = q := ⟨_, rfl⟩
      rw [swR, if_neg (by simp only; omega), if_neg (by simp only; omega), if_pos h1] at hz
      simp only [ht, Prod.mk.injEq] at hz
      obtain ⟨rfl, rfl, rfl, rfl, rfl⟩ := hz
      have HT := Lib.hid ht
      clear ht hn
      rcases h1 with rfl | rfl
      all_goals
        go_wp2_with (first | (go_at_call 59; refine (rdS_to _ _ _ HT.out (Nat.le_succ_of_le HS.out) _).mono ?_; rintro e w' ⟨v1, rfl, o1, b1⟩))
        go_meet
        exact ⟨rfl, o1.mono hPs, hS0.bel b1, hR0.bel b1, hb0.trans b1⟩
    · obtain ⟨⟨zs, g2, f2, l2⟩, ht⟩ : ∃ q, M.toldK last sg fr (r ++ b).data.toList = q := ⟨_, rfl⟩
      rw [swR, if_neg (by simp), if_neg (by simp), if_neg (by simp), if_pos rfl] at hz
      simp only [ht, Prod.mk.injEq] at hz
      obtain ⟨rfl, rfl, rfl, rfl, rfl⟩ := hz
      have HT := Lib.hid ht
      clear ht hn
      have hSa := hS0.bel ((Bel.refl P).alloc (.cells #[.int .i64 0, .bool false] 92))
      have hRa := hR0.bel ((Bel.refl P).alloc (.cells #[.int .i64 0, .bool false] 92))
      have hZa := Box.new P 92 [.int .i64 0, .bool false]
      go_wp2_with (first | (go_at_call 60; refine (rdK_to _ _ _ _ _ _ _ _ HT.out (Nat.le_succ_of_le HS.out) _).mono ?_; rintro e w' ⟨v1, rfl, o1, b1⟩; have hS1 := hSa.bel b1; have hR1 := hRa.bel b1; have hZ1 := hZa.bel b1; have z0 := hZ1.cell 0 _ rfl; have z1 := hZ1.cell 1 _ rfl; have zf0 := hZ1.frozen 0; have zf1 := hZ1.frozen 1; have tc0 := hS1.cell 0 _ rfl; have tc1 := hS1.cell 1 _ rfl; have tc2 := hS1.cell 2 _ rfl; have tc3 := hS1.cell 3 _ rfl; have tc4 := hS1.cell 4 _ rfl; have tf0 := hS1.frozen 0; have tf1 := hS1.frozen 1; have tf2 := hS1.frozen 2; have tf3 := hS1.frozen 3; have tf4 := hS1.frozen 4))
      have hS2 := (hS1.far (p := ⟨P.heap.size, 0, none⟩) (Nat.ne_of_lt hlS) (.int .i64 g2)).far (p := ⟨P.heap.size, 1, none⟩) (Nat.ne_of_lt hlS) (.bool f2)
      have hR2 := (hR1.far (p := ⟨P.heap.size, 0, none⟩) (Nat.ne_of_lt hlR) (.int .i64 g2)).far (p := ⟨P.heap.size, 1, none⟩) (Nat.ne_of_lt hlR) (.bool f2)
      have hZ2 := (hZ1.set 0 (.int .i64 g2)).set 1 (.bool f2)
      have hO2 : Own (w.heap.size + 1 + 1) 3 _ v1 (zs.map (Value.int .i64)) := ((o1.setCell (p := ⟨P.heap.size, 0, none⟩) (by simp) (.int .i64 g2)).setCell (p := ⟨P.heap.size, 1, none⟩) (by simp) (.bool f2)).mono (by simp; omega)
      have hB2 := (((hb0.alloc (.cells #[.int .i64 0, .bool false] 92)).trans b1).setCell (p := ⟨P.heap.size, 0, none⟩) (Nat.le_of_lt hlS) (.int .i64 g2)).setCell (p := ⟨P.heap.size, 1, none⟩) (Nat.le_of_lt hlS) (.bool f2)
      clear z0 z1 zf0 zf1 tc0 tc1 tc2 tc3 tc4 tf0 tf1 tf2 tf3 tf4 sc0 sc1 sc2 sc3 sc4 sf0 sf1 sf2 sf3 sf4 hS1 hR1 hZ1 hSa hRa hZa o1 b1 hS0 hR0 hb0
      generalize (w'.setCell ⟨P.heap.size, 0, none⟩ (.int .i64 g2)).setCell ⟨P.heap.size, 1, none⟩ (.bool f2) = W at *
      generalize P.heap.size = q at *
      have z0 := hZ2.cell 0 _ rfl
      have z1 := hZ2.cell 1 _ rfl
      have tc0 := hS2.cell 0 _ rfl; have tc1 := hS2.cell 1 _ rfl; have tc2 := hS2.cell 2 _ rfl; have tc3 := hS2.cell 3 _ rfl; have tc4 := hS2.cell 4 _ rfl; have tf0 := hS2.frozen 0; have tf1 := hS2.frozen 1; have tf2 := hS2.frozen 2; have tf3 := hS2.frozen 3; have tf4 := hS2.frozen 4
      go_region
      all_goals
        go_wp2_with fail
        go_meet
        first
          | exact ⟨rfl, (hO2.setCell (p := ⟨w.heap.size, 2, none⟩) (by show w.heap.size < w.heap.size + 1 + 1; omega) _).setCell (p := ⟨w.heap.size, 3, none⟩) (by show w.heap.size < w.heap.size + 1 + 1; omega) _, (hS2.set 2 _).set 3 _, (hR2.far (p := ⟨w.heap.size, 2, none⟩) (by simp) _).far (p := ⟨w.heap.size, 3, none⟩) (by simp) _, ((hB2.setCell (p := ⟨w.heap.size, 2, none⟩) (Nat.le_refl _) _).setCell (p := ⟨w.heap.size, 3, none⟩) (Nat.le_refl _) _).drew⟩
          | exact ⟨rfl, (hO2.setCell (p := ⟨w.heap.size, 3, none⟩) (by show w.heap.size < w.heap.size + 1 + 1; omega) _).setCell (p := ⟨w.heap.size, 2, none⟩) (by show w.heap.size < w.heap.size + 1 + 1; omega) _, (hS2.set 3 _).set 2 _, (hR2.far (p := ⟨w.heap.size, 3, none⟩) (by simp) _).far (p := ⟨w.heap.size, 2, none⟩) (by simp) _, ((hB2.setCell (p := ⟨w.heap.size, 3, none⟩) (Nat.le_refl _) _).setCell (p := ⟨w.heap.size, 2, none⟩) (Nat.le_refl _) _).drew⟩
          | trace_state
    · have hz2 : swR ⟨7, r.data.toList, sg, fr, st⟩ (r ++ b).data.toList last = if (r ++ b).data.toList ≠ [] ∧ st = false then ([65533], sg, fr, true, []) else ([], sg, fr, st, []) := by
        rw [swR, if_neg (by simp), if_neg (by simp), if_neg (by simp), if_neg (by simp)]
        simp
      rw [hz2] at hz
      by_cases he : (r ++ b).data.toList = []
      · rw [if_neg (fun h9 => h9.1 he)] at hz
        simp only [Prod.mk.injEq] at hz
        obtain ⟨rfl, rfl, rfl, rfl, rfl⟩ := hz
        have e1 : (!(r ++ b).toList.isEmpty) = false := by rw [Lib.toList_data, he]; rfl
        have e2 : (r ++ b).toList.isEmpty = true := by rw [Lib.toList_data, he]; rfl
        clear hn hz2 he
        go_wp2_with fail
        go_meet
        exact ⟨rfl, Own.nil _ _ _, hS0, hR0, hb0⟩
      · have e1 : (!(r ++ b).toList.isEmpty) = true := by rw [Lib.toList_data]; simpa using he
        have e2 : (r ++ b).toList.isEmpty = false := by rw [Lib.toList_data]; simpa using he
        cases st
        · rw [if_pos ⟨he, rfl⟩] at hz
          simp only [Prod.mk.injEq] at hz
          obtain ⟨rfl, rfl, rfl, rfl, rfl⟩ := hz
          clear hn hz2 he
          go_wp2_with fail
          go_meet
          have hO := Own.made (B := w.heap.size + 1 + 1) (e := 3) (P.setCell ⟨w.heap.size, 4, none⟩ (.bool true)) [.int .i64 65533] (by simpa using hPs) (by simp [maxLen])
          simp only [World.size_setCell, List.length_singleton] at hO
          exact ⟨rfl, hO, (hS0.set 4 _).bel ((Bel.refl _).alloc _), (hR0.far (p := ⟨w.heap.size, 4, none⟩) (by simp) _).bel ((Bel.refl _).alloc _), (hb0.setCell (p := ⟨w.heap.size, 4, none⟩) (Nat.le_refl _) _).alloc _⟩
        · rw [if_neg (by simp)] at hz
          simp only [Prod.mk.injEq] at hz
          obtain ⟨rfl, rfl, rfl, rfl, rfl⟩ := hz
          clear hn hz2 he
          go_wp2_with fail
          go_meet
          exact ⟨rfl, Own.nil _ _ _, hS0, hR0, hb0⟩
  case rest =>
    obtain ⟨rfl, hO, hS, hR, hB⟩ := hcut
    have hs1 : w.heap.size + 1 + 1 ≤ wc.heap.size := hR.lt
    have sc0 := hS.cell 0 _ rfl; have sc1 := hS.cell 1 _ rfl; have sc2 := hS.cell 2 _ rfl; have sc3 := hS.cell 3 _ rfl; have sc4 := hS.cell 4 _ rfl; have sf0 := hS.frozen 0; have sf1 := hS.frozen 1; have sf2 := hS.frozen 2; have sf3 := hS.frozen 3; have sf4 := hS.frozen 4
    have rc0 := hR.cell 0 _ rfl; have rc1 := hR.cell 1 _ rfl; have rc2 := hR.cell 2 _ rfl; have rc3 := hR.cell 3 _ rfl; have rc4 := hR.cell 4 _ rfl; have rf0 := hR.frozen 0; have rf1 := hR.frozen 1; have rf2 := hR.frozen 2; have rf3 := hR.frozen 3; have rf4 := hR.frozen 4
    have hd := HD.out
    clear HQ HD hS0 hR0 hb0 HS hsz hn
    cases last
    · rw [endR, if_neg (by decide)] at hd
      injection hd with hd1 hd2
      subst hd1
      subst hd2
      go_wp2_with fail
      go_region
      go_wp2_with fail
      have hF := Box.drew ((((((hR.far (p := ⟨w.heap.size, 1, none⟩) (by simp) (.string ⟨l.toArray⟩)).set 0 (.int .i64 n)).set 1 (.string ⟨l.toArray⟩)).set 2 (.int .i64 sg2)).set 3 (.bool fr2)).set 4 (.bool st2))
      have y0 := hF.cell 0 _ rfl
      have y1 := hF.cell 1 _ rfl
      have y2 := hF.cell 2 _ rfl
      have y3 := hF.cell 3 _ rfl
      have y4 := hF.cell 4 _ rfl
      refine bodyPost_ret (v := .tuple #[u9, .agg #[.int .i64 n, .string ⟨l.toArray⟩, .int .i64 sg2, .bool fr2, .bool st2]]) (by simp [results, Tryz.results30, go_sem, y0, y1, y2, y3, y4]) rfl ?_
      exact ⟨_, rfl, (((((((hO.setCell (p := ⟨w.heap.size, 1, none⟩) (by show w.heap.size < w.heap.size + 1 + 1; omega) _).setCell (p := ⟨w.heap.size + 1, 0, none⟩) (Nat.lt_succ_self _) _).setCell (p := ⟨w.heap.size + 1, 1, none⟩) (Nat.lt_succ_self _) _).setCell (p := ⟨w.heap.size + 1, 2, none⟩) (Nat.lt_succ_self _) _).setCell (p := ⟨w.heap.size + 1, 3, none⟩) (Nat.lt_succ_self _) _).setCell (p := ⟨w.heap.size + 1, 4, none⟩) (Nat.lt_succ_self _) _)).drew.mono (by omega), (((((((hB.setCell (p := ⟨w.heap.size, 1, none⟩) (Nat.le_refl _) _).setCell (p := ⟨w.heap.size + 1, 0, none⟩) (Nat.le_succ _) _).setCell (p := ⟨w.heap.size + 1, 1, none⟩) (Nat.le_succ _) _).setCell (p := ⟨w.heap.size + 1, 2, none⟩) (Nat.le_succ _) _).setCell (p := ⟨w.heap.size + 1, 3, none⟩) (Nat.le_succ _) _).setCell (p := ⟨w.heap.size + 1, 4, none⟩) (Nat.le_succ _) _)).drew⟩
    · rw [endR, if_pos rfl] at hd
      by_cases hl : l = []
      · subst hl
        rw [if_pos rfl] at hd
        injection hd with hd1 hd2
        subst hd1
        subst hd2
        go_wp2_with fail
        go_region
        go_wp2_with fail
        have hF := Box.drew (((((((((((hR.far (p := ⟨w.heap.size, 1, none⟩) (by simp) (.string ⟨#[]⟩)).far (p := ⟨w.heap.size, 0, none⟩) (by simp) (.int .i64 n)).far (p := ⟨w.heap.size, 1, none⟩) (by simp) (.string ⟨#[]⟩)).far (p := ⟨w.heap.size, 2, none⟩) (by simp) (.int .i64 0)).far (p := ⟨w.heap.size, 3, none⟩) (by simp) (.bool false)).far (p := ⟨w.heap.size, 4, none⟩) (by simp) (.bool false)).set 0 (.int .i64 n)).set 1 (.string ⟨#[]⟩)).set 2 (.int .i64 0)).set 3 (.bool false)).set 4 (.bool false))
        have y0 := hF.cell 0 _ rfl
        have y1 := hF.cell 1 _ rfl
        have y2 := hF.cell 2 _ rfl
        have y3 := hF.cell 3 _ rfl
        have y4 := hF.cell 4 _ rfl
        refine bodyPost_ret (v := .tuple #[u9, .agg #[.int .i64 n, .string ⟨#[]⟩, .int .i64 0, .bool false, .bool false]]) (by simp [results, Tryz.results30, go_sem, y0, y1, y2, y3, y4]) rfl ?_
        exact ⟨_, rfl, ((((((((((((hO.setCell (p := ⟨w.heap.size, 1, none⟩) (by show w.heap.size < w.heap.size + 1 + 1; omega) _).setCell (p := ⟨w.heap.size, 0, none⟩) (by show w.heap.size < w.heap.size + 1 + 1; omega) _).setCell (p := ⟨w.heap.size, 1, none⟩) (by show w.heap.size < w.heap.size + 1 + 1; omega) _).setCell (p := ⟨w.heap.size, 2, none⟩) (by show w.heap.size < w.heap.size + 1 + 1; omega) _).setCell (p := ⟨w.heap.size, 3, none⟩) (by show w.heap.size < w.heap.size + 1 + 1; omega) _).setCell (p := ⟨w.heap.size, 4, none⟩) (by show w.heap.size < w.heap.size + 1 + 1; omega) _).setCell (p := ⟨w.heap.size + 1, 0, none⟩) (Nat.lt_succ_self _) _).setCell (p := ⟨w.heap.size + 1, 1, none⟩) (Nat.lt_succ_self _) _).setCell (p := ⟨w.heap.size + 1, 2, none⟩) (Nat.lt_succ_self _) _).setCell (p := ⟨w.heap.size + 1, 3, none⟩) (Nat.lt_succ_self _) _).setCell (p := ⟨w.heap.size + 1, 4, none⟩) (Nat.lt_succ_self _) _)).drew.mono (by omega), ((((((((((((hB.setCell (p := ⟨w.heap.size, 1, none⟩) (Nat.le_refl _) _).setCell (p := ⟨w.heap.size, 0, none⟩) (Nat.le_refl _) _).setCell (p := ⟨w.heap.size, 1, none⟩) (Nat.le_refl _) _).setCell (p := ⟨w.heap.size, 2, none⟩) (Nat.le_refl _) _).setCell (p := ⟨w.heap.size, 3, none⟩) (Nat.le_refl _) _).setCell (p := ⟨w.heap.size, 4, none⟩) (Nat.le_refl _) _).setCell (p := ⟨w.heap.size + 1, 0, none⟩) (Nat.le_succ _) _).setCell (p := ⟨w.heap.size + 1, 1, none⟩) (Nat.le_succ _) _).setCell (p := ⟨w.heap.size + 1, 2, none⟩) (Nat.le_succ _) _).setCell (p := ⟨w.heap.size + 1, 3, none⟩) (Nat.le_succ _) _).setCell (p := ⟨w.heap.size + 1, 4, none⟩) (Nat.le_succ _) _)).drew⟩
      · rw [if_neg hl] at hd
        injection hd with hd1 hd2
        subst hd1
        subst hd2
        have e1 : (!l.isEmpty) = true := by simpa using hl
        have e2 : l.isEmpty = false := by simpa using hl
        have o1b := hO.setCell (p := ⟨w.heap.size, 1, none⟩) (by show w.heap.size < w.heap.size + 1 + 1; omega) (.string ⟨l.toArray⟩)
        clear hl
        go_wp2_with (first | (at_builtin; refine wpList_app rfl (.tmp 80) (.tmp 81) 31 rfl elemInt (by decide) (w.heap.size + 1 + 1) _ _ _ rfl (by rw [World.size_setCell]; rfl) o1b rfl (by simp; omega) (by simp; omega) ?_; intro v3 w3 o3 b3; have hS3 := Box.upto (B := w.heap.size + 1 + 1) (hS.set 1 (.string ⟨l.toArray⟩)) b3 (by omega); have hR3 := Box.upto (B := w.heap.size + 1 + 1) (hR.far (p := ⟨w.heap.size, 1, none⟩) (by simp) (.string ⟨l.toArray⟩)) b3 (by omega); have tc0 := hS3.cell 0 _ rfl; have tc1 := hS3.cell 1 _ rfl; have tc2 := hS3.cell 2 _ rfl; have tc3 := hS3.cell 3 _ rfl; have tc4 := hS3.cell 4 _ rfl; have tf0 := hS3.frozen 0; have tf1 := hS3.frozen 1; have tf2 := hS3.frozen 2; have tf3 := hS3.frozen 3; have tf4 := hS3.frozen 4; have uc0 := hR3.cell 0 _ rfl; have uc1 := hR3.cell 1 _ rfl; have uc2 := hR3.cell 2 _ rfl; have uc3 := hR3.cell 3 _ rfl; have uc4 := hR3.cell 4 _ rfl; have uf0 := hR3.frozen 0; have uf1 := hR3.frozen 1; have uf2 := hR3.frozen 2; have uf3 := hR3.frozen 3; have uf4 := hR3.frozen 4))
        go_region
        go_wp2_with fail
        have o3b : Own (w.heap.size + 1 + 1) 3 w3 v3 ((ys ++ [65533]).map (Value.int .i64)) := by rw [List.map_append]; exact o3
        have hB3 : Bel w w3 := Bel.upto (hB.setCell (p := ⟨w.heap.size, 1, none⟩) (Nat.le_refl _) _) b3 (by omega)
        have hF := Box.drew ((((((((((hR3.far (p := ⟨w.heap.size, 0, none⟩) (by simp) (.int .i64 n)).far (p := ⟨w.heap.size, 1, none⟩) (by simp) (.string ⟨#[]⟩)).far (p := ⟨w.heap.size, 2, none⟩) (by simp) (.int .i64 0)).far (p := ⟨w.heap.size, 3, none⟩) (by simp) (.bool false)).far (p := ⟨w.heap.size, 4, none⟩) (by simp) (.bool false)).set 0 (.int .i64 n)).set 1 (.string ⟨#[]⟩)).set 2 (.int .i64 0)).set 3 (.bool false)).set 4 (.bool false))
        have y0 := hF.cell 0 _ rfl
        have y1 := hF.cell 1 _ rfl
        have y2 := hF.cell 2 _ rfl
        have y3 := hF.cell 3 _ rfl
        have y4 := hF.cell 4 _ rfl
        refine bodyPost_ret (v := .tuple #[v3, .agg #[.int .i64 n, .string ⟨#[]⟩, .int .i64 0, .bool false, .bool false]]) (by simp [results, Tryz.results30, go_sem, y0, y1, y2, y3, y4]) rfl ?_
        exact ⟨_, rfl, (((((((((((o3b.setCell (p := ⟨w.heap.size, 0, none⟩) (by show w.heap.size < w.heap.size + 1 + 1; omega) _).setCell (p := ⟨w.heap.size, 1, none⟩) (by show w.heap.size < w.heap.size + 1 + 1; omega) _).setCell (p := ⟨w.heap.size, 2, none⟩) (by show w.heap.size < w.heap.size + 1 + 1; omega) _).setCell (p := ⟨w.heap.size, 3, none⟩) (by show w.heap.size < w.heap.size + 1 + 1; omega) _).setCell (p := ⟨w.heap.size, 4, none⟩) (by show w.heap.size < w.heap.size + 1 + 1; omega) _).setCell (p := ⟨w.heap.size + 1, 0, none⟩) (Nat.lt_succ_self _) _).setCell (p := ⟨w.heap.size + 1, 1, none⟩) (Nat.lt_succ_self _) _).setCell (p := ⟨w.heap.size + 1, 2, none⟩) (Nat.lt_succ_self _) _).setCell (p := ⟨w.heap.size + 1, 3, none⟩) (Nat.lt_succ_self _) _).setCell (p := ⟨w.heap.size + 1, 4, none⟩) (Nat.lt_succ_self _) _)).drew.mono (by omega), (((((((((((hB3.setCell (p := ⟨w.heap.size, 0, none⟩) (Nat.le_refl _) _).setCell (p := ⟨w.heap.size, 1, none⟩) (Nat.le_refl _) _).setCell (p := ⟨w.heap.size, 2, none⟩) (Nat.le_refl _) _).setCell (p := ⟨w.heap.size, 3, none⟩) (Nat.le_refl _) _).setCell (p := ⟨w.heap.size, 4, none⟩) (Nat.le_refl _) _).setCell (p := ⟨w.heap.size + 1, 0, none⟩) (Nat.le_succ _) _).setCell (p := ⟨w.heap.size + 1, 1, none⟩) (Nat.le_succ _) _).setCell (p := ⟨w.heap.size + 1, 2, none⟩) (Nat.le_succ _) _).setCell (p := ⟨w.heap.size + 1, 3, none⟩) (Nat.le_succ _) _).setCell (p := ⟨w.heap.size + 1, 4, none⟩) (Nat.le_succ _) _)).drew⟩
end Go.Proofs.YtcgdecpjlggekaaGreatDoor

/-
  The document's answers on streams: CheckState.
-/
namespace Go.Proofs.YtcgdecpjlggekaaGreatDoor
open Go.RowKit
set_option maxRecDepth 1000000

theorem isEncoding_to (n : Int) (b : Bool) (h : M.isEnc n = b) (w : World) : Calls Tryz.prog 45 #[.int .i64 n] w fun e w' => e = .returned (.bool b) ∧ w = w' := by
  have := isEncoding_any n w; rw [h] at this; exact this
set_option maxHeartbeats 8000000 in
theorem checkState_any (n : Int) (r : ByteArray) (sg : Int) (fr st : Bool) (k : Int) (hk : M.checkM ⟨n, r.data.toList, sg, fr, st⟩ = k) (w : World) : Calls Tryz.prog 26 #[.agg #[.int .i64 n, .string r, .int .i64 sg, .bool fr, .bool st]] w fun e w' => e = .returned (.int .i64 k) ∧ Bel w w' := by
  cases h : M.isEnc n with
  | false =>
    have HI := Lib.hid h
    obtain rfl : k = 6 := by rw [← hk, M.checkM, if_pos h]
    clear h hk
    go_enter Tryz.func26, Tryz.ntmps26
    go_wp2_with (first | (go_at_call 45; refine (isEncoding_to _ _ HI.out _).mono ?_; rintro e w' ⟨rfl, rfl⟩))
    go_ret
    exact ⟨rfl, (by repeat (first | exact Bel.refl _ | refine Bel.drewN ?_ _ | refine Bel.drew ?_ | refine Bel.alloc ?_ _ | refine Bel.trans ?_ (by assumption) | refine Bel.setCell ?_ (by simp; omega) _))⟩
  | true =>
    have HI := Lib.hid h
    have hk2 := M.check_ref ⟨n, r.data.toList, sg, fr, st⟩ h
    rw [hk] at hk2
    simp only at hk2
    obtain ⟨ok, hok⟩ : ∃ ok, M.okR n r.data.toList = ok := ⟨_, rfl⟩
    rw [hok] at hk2
    have HK := Lib.hid hk2
    have HO := Lib.hid hok
    have hS0 := Box.new w 23 [.int .i64 n, .string r, .int .i64 sg, .bool fr, .bool st]
    have hb0 : Bel w (w.alloc (.cells #[.int .i64 n, .string r, .int .i64 sg, .bool fr, .bool st] 23)) := (by repeat (first | exact Bel.refl _ | refine Bel.drewN ?_ _ | refine Bel.drew ?_ | refine Bel.alloc ?_ _ | refine Bel.trans ?_ (by assumption) | refine Bel.setCell ?_ (by simp; omega) _))
    clear hk hk2 hok
    go_enter Tryz.func26, Tryz.ntmps26
    go_upto_block 0 with (first | (go_at_call 45; refine (isEncoding_to _ _ HI.out _).mono ?_; rintro e w' ⟨rfl, rfl⟩))
    go_cut [3] from 4 to 63 (fun vo wx => vo = .bool ok ∧ Box wx w.heap.size 23 [.int .i64 n, .string r, .int .i64 sg, .bool fr, .bool st] ∧ Bel w wx)
    case first =>
      generalize w.alloc (.cells #[.int .i64 n, .string r, .int .i64 sg, .bool fr, .bool st] 23) = P at *
      have sc0 := hS0.cell 0 _ rfl; have sc1 := hS0.cell 1 _ rfl; have sc2 := hS0.cell 2 _ rfl; have sc3 := hS0.cell 3 _ rfl; have sc4 := hS0.cell 4 _ rfl
      have ho := HO.out
      clear HK HO HI
      by_cases he : r.data.toList = []
      · have e1 : r.toList.isEmpty = true := by rw [Lib.toList_data, he]; rfl
        have hz : r.size = 0 := by rw [Lib.size_eq, he]; rfl
        have hzi : (r.size : Int) < 1 := by omega
        obtain rfl : ok = true := by rw [← ho, he]; rfl
        have HB := Lib.hid (show decide ((1 : Int) ≤ (r.size : Int) ∧ (r.size : Int) ≤ 3) = false by rw [decide_eq_false_iff_not]; omega)
        clear he hz ho
        rcases M.enc_cases n h with rfl | h1 | h1 | rfl | rfl
        · skip
          go_wp2_with (first | (go_at_call 24; refine (between_to _ _ _ _ HB.out _).mono ?_; rintro e w' ⟨rfl, rfl⟩))
          go_meet
          exact ⟨(by first | rfl | rw [e1]), hS0, hb0⟩
        · clear h
          rcases h1 with rfl | rfl
          · skip
            go_wp2_with (first | (go_at_call 24; refine (between_to _ _ _ _ HB.out _).mono ?_; rintro e w' ⟨rfl, rfl⟩))
            go_meet
            exact ⟨(by first | rfl | rw [e1]), hS0, hb0⟩
          · skip
            go_wp2_with (first | (go_at_call 24; refine (between_to _ _ _ _ HB.out _).mono ?_; rintro e w' ⟨rfl, rfl⟩))
            go_meet
            exact ⟨(by first | rfl | rw [e1]), hS0, hb0⟩
        · clear h
          rcases h1 with rfl | rfl
          · skip
            go_wp2_with (first | (go_at_call 24; refine (between_to _ _ _ _ HB.out _).mono ?_; rintro e w' ⟨rfl, rfl⟩))
            go_meet
            exact ⟨(by first | rfl | rw [e1]), hS0, hb0⟩
          · skip
            go_wp2_with (first | (go_at_call 24; refine (between_to _ _ _ _ HB.out _).mono ?_; rintro e w' ⟨rfl, rfl⟩))
            go_meet
            exact ⟨(by first | rfl | rw [e1]), hS0, hb0⟩
        · skip
          go_wp2_with (first | (go_at_call 24; refine (between_to _ _ _ _ HB.out _).mono ?_; rintro e w' ⟨rfl, rfl⟩))
          go_meet
          exact ⟨(by first | rfl | rw [e1]), hS0, hb0⟩
        · skip
          go_wp2_with (first | (go_at_call 24; refine (between_to _ _ _ _ HB.out _).mono ?_; rintro e w' ⟨rfl, rfl⟩))
          go_meet
          exact ⟨(by first | rfl | rw [e1]), hS0, hb0⟩
      · obtain ⟨c, t, hct⟩ : ∃ c t, r.data.toList = c :: t := by
          cases hq : r.data.toList with
          | nil => exact absurd hq he
          | cons c t => exact ⟨c, t, rfl⟩
        have e1 : r.toList.isEmpty = false := by rw [Lib.toList_data, hct]; rfl
        have hz : r.size = t.length + 1 := by rw [Lib.size_eq, hct]; rfl
        have hz1 : 1 ≤ r.size := by omega
        rw [hct] at ho
        have ho2 : M.okC n c t = ok := ho
        clear ho he
        rcases M.enc_cases n h with rfl | h1 | h1 | rfl | rfl
        · rw [M.okC.eq_def, if_pos rfl] at ho2
          by_cases h3 : r.size ≤ 3
          · have HB := Lib.hid (show decide ((1 : Int) ≤ (r.size : Int) ∧ (r.size : Int) ≤ 3) = true by rw [decide_eq_true_eq]; omega)
            have HC := Lib.hid (isBegun_any r c t hct)
            rw [show decide (t.length ≤ 2) = true by rw [decide_eq_true_eq]; omega, Bool.true_and] at ho2
            cases hk8 : M.ok8 c t with
            | false =>
              rw [hk8, Bool.false_and] at ho2
              subst ho2
              rw [hk8] at HC
              clear hct hz h hk8
              go_wp2_with (first | (go_at_call 24; refine (between_to _ _ _ _ HB.out _).mono ?_; rintro e w' ⟨rfl, rfl⟩) | (go_at_call 46; refine (HC.out _).mono ?_; rintro e w1 ⟨a, rfl, _, b1⟩))
              go_meet
              exact ⟨rfl, hS0.bel b1, hb0.trans b1⟩
            | true =>
              rw [hk8, Bool.true_and] at ho2
              rw [hk8] at HC
              have HZ := Lib.hid hz
              clear hct hz h hk8
              go_wp2_with (first | (go_at_call 24; refine (between_to _ _ _ _ HB.out _).mono ?_; rintro e w' ⟨rfl, rfl⟩) | (go_at_call 46; refine (HC.out _).mono ?_; rintro e w1 ⟨a, rfl, ha, b1⟩))
              go_meet
              exact ⟨by rw [← ho2, show ((r.size : Nat) : Int) = (t.length : Int) + 1 by rw [HZ.out]; rfl], hS0.bel b1, hb0.trans b1⟩
          · have HB := Lib.hid (show decide ((1 : Int) ≤ (r.size : Int) ∧ (r.size : Int) ≤ 3) = false by rw [decide_eq_false_iff_not]; omega)
            rw [show decide (t.length ≤ 2) = false by rw [decide_eq_false_iff_not]; omega, Bool.false_and] at ho2
            subst ho2
            clear hct hz h
            go_wp2_with (first | (go_at_call 24; refine (between_to _ _ _ _ HB.out _).mono ?_; rintro e w' ⟨rfl, rfl⟩))
            go_meet
            exact ⟨(by first | rfl | rw [e1]), hS0, hb0⟩
        · rw [M.okC.eq_def, if_neg (by omega), if_pos h1] at ho2
          by_cases h3 : r.size ≤ 3
          · have HB := Lib.hid (show decide ((1 : Int) ≤ (r.size : Int) ∧ (r.size : Int) ≤ 3) = true by rw [decide_eq_true_eq]; omega)
            cases t with
            | nil =>
              have hzo : ((r.size : Int) == 1) = true := by rw [beq_iff_eq, hz]; rfl
              simp only at ho2
              subst ho2
              clear hct hz h
              rcases h1 with rfl | rfl
              all_goals
                go_wp2_with (first | (go_at_call 24; refine (between_to _ _ _ _ HB.out _).mono ?_; rintro e w' ⟨rfl, rfl⟩))
                go_meet
                exact ⟨rfl, hS0, hb0⟩
            | cons d u =>
              have hzo : ((r.size : Int) == 1) = false := by rw [beq_eq_false_iff_ne, hz]; simp only [List.length_cons]; omega
              simp only at ho2
              rw [show decide (u.length ≤ 1) = true by rw [decide_eq_true_eq]; simp only [List.length_cons] at hz; omega, Bool.true_and] at ho2
              obtain ⟨m, hm⟩ : ∃ m, M.unit16 (n == 3) c d = m := ⟨_, rfl⟩
              rw [hm] at ho2
              have HM := Lib.hid hm
              have HH := Lib.hid (show decide ((55296 : Int) ≤ m ∧ m ≤ 56319) = ok from ho2)
              have H0 := Lib.hid (show r.data.toList[0]? = some c by rw [hct]; rfl)
              have H1 := Lib.hid (show r.data.toList[0 + 1]? = some d by rw [hct]; rfl)
              clear hct hz h ho2 hm
              rcases h1 with rfl | rfl
              all_goals
                go_wp2_with (first | (go_at_call 24; (first | with_reducible refine (between_to _ _ _ _ HB.out _).mono ?_ | with_reducible refine (between_to m 55296 56319 ok HH.out _).mono ?_); rintro e w1 ⟨rfl, rfl⟩) | (go_at_call 47; refine (unitAt_to _ r 0 c d m HM.out H0.out H1.out (by omega) _ rfl _).mono ?_; rintro e w1 ⟨rfl, q, rfl⟩))
                go_meet
                exact ⟨rfl, hS0.drewN _, hb0.drewN _⟩
          · have HB := Lib.hid (show decide ((1 : Int) ≤ (r.size : Int) ∧ (r.size : Int) ≤ 3) = false by rw [decide_eq_false_iff_not]; omega)
            cases t with
            | nil => exfalso; simp only [List.length_nil] at hz; omega
            | cons d u =>
              simp only at ho2
              rw [show decide (u.length ≤ 1) = false by rw [decide_eq_false_iff_not]; simp only [List.length_cons] at hz; omega, Bool.false_and] at ho2
              subst ho2
              clear hct hz h
              rcases h1 with rfl | rfl
              · skip
                go_wp2_with (first | (go_at_call 24; refine (between_to _ _ _ _ HB.out _).mono ?_; rintro e w' ⟨rfl, rfl⟩))
                go_meet
                exact ⟨(by first | rfl | rw [e1]), hS0, hb0⟩
              · skip
                go_wp2_with (first | (go_at_call 24; refine (between_to _ _ _ _ HB.out _).mono ?_; rintro e w' ⟨rfl, rfl⟩))
                go_meet
                exact ⟨(by first | rfl | rw [e1]), hS0, hb0⟩
        · rw [M.okC.eq_def, if_neg (by omega), if_neg (by omega), if_neg (by omega)] at ho2
          subst ho2
          have HB := Lib.hid trivial
          clear hct hz h
          rcases h1 with rfl | rfl
          · skip
            go_wp2_with fail
            go_meet
            exact ⟨(by first | rfl | rw [e1]), hS0, hb0⟩
          · skip
            go_wp2_with fail
            go_meet
            exact ⟨(by first | rfl | rw [e1]), hS0, hb0⟩
        · rw [M.okC.eq_def, if_neg (by omega), if_neg (by omega), if_pos rfl, ← hct] at ho2
          clear hct hz h
          have z1 : (r.toList == [27]) = decide (r.data.toList = [27]) := by rw [Lib.toList_data]; by_cases h9 : r.data.toList = [27] <;> simp [h9]
          have z2 : (r.toList == [27, 40]) = decide (r.data.toList = [27, 40]) := by rw [Lib.toList_data]; by_cases h9 : r.data.toList = [27, 40] <;> simp [h9]
          by_cases q1 : r.data.toList = [27]
          · have y1 : (r.toList == [27]) = true := by rw [z1, decide_eq_true_eq]; exact q1
            obtain rfl : ok = true := by rw [← ho2, decide_eq_true_eq]; exact .inl q1
            clear z1 z2 ho2 q1
            go_wp2_with fail
            go_meet
            exact ⟨(by first | rfl | rw [e1]), hS0, hb0⟩
          · have y1 : (r.toList == [27]) = false := by rw [z1, decide_eq_false_iff_not]; exact q1
            by_cases q2 : r.data.toList = [27, 40]
            · have y2 : (r.toList == [27, 40]) = true := by rw [z2, decide_eq_true_eq]; exact q2
              obtain rfl : ok = true := by rw [← ho2, decide_eq_true_eq]; exact .inr q2
              clear z1 z2 ho2 q1 q2
              go_wp2_with fail
              go_meet
              exact ⟨(by first | rfl | rw [e1]), hS0, hb0⟩
            · have y2 : (r.toList == [27, 40]) = false := by rw [z2, decide_eq_false_iff_not]; exact q2
              obtain rfl : ok = false := by rw [← ho2, decide_eq_false_iff_not]; rintro (h9 | h9); exact q1 h9; exact q2 h9
              clear z1 z2 ho2 q1 q2
              go_wp2_with fail
              go_meet
              exact ⟨(by first | rfl | rw [e1]), hS0, hb0⟩
        · rw [M.okC.eq_def, if_neg (by omega), if_neg (by omega), if_neg (by omega)] at ho2
          subst ho2
          clear hct hz h
          go_wp2_with fail
          go_meet
          exact ⟨(by first | rfl | rw [e1]), hS0, hb0⟩
    case rest =>
      obtain ⟨rfl, hS, hB⟩ := hcut
      have sc0 := hS.cell 0 _ rfl; have sc1 := hS.cell 1 _ rfl; have sc2 := hS.cell 2 _ rfl; have sc3 := hS.cell 3 _ rfl; have sc4 := hS.cell 4 _ rfl
      have hs2 : M.stateOk ⟨n, r.data.toList, sg, fr, st⟩ = !(decide (sg < 0 ∨ 2 < sg) || (decide (n ≠ 6) && (decide (sg ≠ 0) || fr)) || (decide (n ≠ 7) && st)) := rfl
      have key : ∀ b, M.stateOk ⟨n, r.data.toList, sg, fr, st⟩ = b → ok = true → k = if b = false then 4 else 0 := fun b hb ho => by rw [HK.out, ho, if_neg (by decide), hb]
      have KEY := Lib.hid key
      have K1 := Lib.hid (show ok = false → k = 1 from fun ho => by rw [HK.out, if_pos ho])
      clear key HK HO HI hS0 hb0 h
      cases ok with
      | false =>
        obtain rfl : k = 1 := K1.out rfl
        clear hs2
        go_wp2_with (first | (go_at_call 24; refine (between_to _ _ _ _ HB.out _).mono ?_; rintro e w' ⟨rfl, rfl⟩))
        go_ret
        exact ⟨rfl, hB⟩
      | true =>
        by_cases g1 : 0 ≤ sg ∧ sg ≤ 2
        · have HB := Lib.hid (show decide ((0 : Int) ≤ sg ∧ sg ≤ 2) = true by rw [decide_eq_true_eq]; exact g1)
          by_cases g3 : n = 6
          · subst g3
            cases st
            · obtain rfl : k = 0 := KEY.out true (by rw [hs2]; simp; omega) rfl
              clear hs2 g1
              go_wp2_with (first | (go_at_call 24; refine (between_to _ _ _ _ HB.out _).mono ?_; rintro e w' ⟨rfl, rfl⟩))
              go_ret
              exact ⟨rfl, hB⟩
            · obtain rfl : k = 4 := KEY.out false (by rw [hs2]; simp) rfl
              clear hs2 g1
              go_wp2_with (first | (go_at_call 24; refine (between_to _ _ _ _ HB.out _).mono ?_; rintro e w' ⟨rfl, rfl⟩))
              go_ret
              exact ⟨rfl, hB⟩
          · have e6 : (n != 6) = true := by simpa using g3
            cases fr
            · by_cases g4 : sg = 0
              · subst g4
                by_cases g5 : n = 7
                · subst g5
                  obtain rfl : k = 0 := KEY.out true (by rw [hs2]; simp) rfl
                  clear hs2 g1
                  go_wp2_with (first | (go_at_call 24; refine (between_to _ _ _ _ HB.out _).mono ?_; rintro e w' ⟨rfl, rfl⟩))
                  go_ret
                  exact ⟨rfl, hB⟩
                · have e7 : (n != 7) = true := by simpa using g5
                  cases st
                  · obtain rfl : k = 0 := KEY.out true (by rw [hs2]; simp) rfl
                    clear hs2 g3 g5 g1
                    go_wp2_with (first | (go_at_call 24; refine (between_to _ _ _ _ HB.out _).mono ?_; rintro e w' ⟨rfl, rfl⟩))
                    go_ret
                    exact ⟨rfl, hB⟩
                  · obtain rfl : k = 4 := KEY.out false (by rw [hs2]; simp [g5]) rfl
                    clear hs2 g3 g5 g1
                    go_wp2_with (first | (go_at_call 24; refine (between_to _ _ _ _ HB.out _).mono ?_; rintro e w' ⟨rfl, rfl⟩))
                    go_ret
                    exact ⟨rfl, hB⟩
              · have e4 : (sg != 0) = true := by simpa using g4
                obtain rfl : k = 4 := KEY.out false (by rw [hs2]; simp [g3, g4]) rfl
                clear hs2 g3 g4 g1
                go_wp2_with (first | (go_at_call 24; refine (between_to _ _ _ _ HB.out _).mono ?_; rintro e w' ⟨rfl, rfl⟩))
                go_ret
                exact ⟨rfl, hB⟩
            · obtain rfl : k = 4 := KEY.out false (by rw [hs2]; simp [g3]) rfl
              by_cases g4 : sg = 0
              · subst g4
                clear hs2 g3 g1
                go_wp2_with (first | (go_at_call 24; refine (between_to _ _ _ _ HB.out _).mono ?_; rintro e w' ⟨rfl, rfl⟩))
                go_ret
                exact ⟨rfl, hB⟩
              · have e4 : (sg != 0) = true := by simpa using g4
                clear hs2 g3 g4 g1
                go_wp2_with (first | (go_at_call 24; refine (between_to _ _ _ _ HB.out _).mono ?_; rintro e w' ⟨rfl, rfl⟩))
                go_ret
                exact ⟨rfl, hB⟩
        · have HB := Lib.hid (show decide ((0 : Int) ≤ sg ∧ sg ≤ 2) = false by rw [decide_eq_false_iff_not]; exact g1)
          obtain rfl : k = 4 := KEY.out false (by rw [hs2]; have : sg < 0 ∨ 2 < sg := by omega
                                                  simp [this]) rfl
          clear hs2 g1
          go_wp2_with (first | (go_at_call 24; refine (between_to _ _ _ _ HB.out _).mono ?_; rintro e w' ⟨rfl, rfl⟩))
          go_ret
          exact ⟨rfl, hB⟩
end Go.Proofs.YtcgdecpjlggekaaGreatDoor

/-
  The document's answers on fronts: CheckFront.
-/
namespace Go.Proofs.YtcgdecpjlggekaaGreatDoor
open Go.RowKit
set_option maxRecDepth 1000000
set_option maxHeartbeats 4000000

theorem betweenF_to (n a b : Int) (c : Bool) (h : decide (a ≤ n ∧ n ≤ b) = c) (w : World) : Calls Tryz.prog 24 #[.int .i64 n, .int .i64 a, .int .i64 b] w fun e w' => e = .returned (.bool c) ∧ w = w' := by
  have := between_any n a b w; rw [h] at this; exact this
theorem checkFront_to (lb : ByteArray) (en wy : Int) (wt : ByteArray) (se : Int) (rs : ByteArray) (sg : Int) (fr st : Bool) (k : Int) (hk : M.checkF ⟨lb.data.toList, en, wy, wt.data.toList, ⟨se, rs.data.toList, sg, fr, st⟩⟩ = k) (w : World) :
    Calls Tryz.prog 9 #[.agg #[.string lb, .int .i64 en, .int .i64 wy, .string wt, .int .i64 se, .string rs, .int .i64 sg, .bool fr, .bool st]] w fun e w' => e = .returned (.int .i64 k) ∧ Bel w w' := by
  have hb : Bel w (w.alloc (.cells #[.string lb, .int .i64 en, .int .i64 wy, .string wt, .int .i64 se, .string rs, .int .i64 sg, .bool fr, .bool st] 25)) := (by repeat (first | exact Bel.refl _ | refine Bel.drewN ?_ _ | refine Bel.drew ?_ | refine Bel.alloc ?_ _ | refine Bel.trans ?_ (by assumption) | refine Bel.setCell ?_ (by simp; omega) _))
  have hB := Box.new w 25 [.string lb, .int .i64 en, .int .i64 wy, .string wt, .int .i64 se, .string rs, .int .i64 sg, .bool fr, .bool st]
  rw [M.checkF_wrong] at hk
  simp only [← Lib.size_eq] at hk
  by_cases hx : 3000 < lb.size
  · rw [if_pos (.inl hx)] at hk
    subst hk
    have g1 : decide (3000 < (lb.size : Int)) = true := by simp; omega
    clear hx
    have c0 := hB.cell 0 _ rfl; have c1 := hB.cell 1 _ rfl; have c2 := hB.cell 2 _ rfl; have c3 := hB.cell 3 _ rfl; have c4 := hB.cell 4 _ rfl; have c5 := hB.cell 5 _ rfl; have c6 := hB.cell 6 _ rfl; have c7 := hB.cell 7 _ rfl; have c8 := hB.cell 8 _ rfl
    go_enter Tryz.func9, Tryz.ntmps9
    go_wp2_with fail
    go_ret
    exact ⟨rfl, hb⟩
  · have g1 : decide (3000 < (lb.size : Int)) = false := by simp; omega
    have hl : lb.size ≤ 68719476735 := by omega
    by_cases hy : 3000 < wt.size
    · rw [if_pos (.inr hy)] at hk
      subst hk
      have g2 : decide (3000 < (wt.size : Int)) = true := by simp; omega
      clear hx hy
      have c0 := hB.cell 0 _ rfl; have c1 := hB.cell 1 _ rfl; have c2 := hB.cell 2 _ rfl; have c3 := hB.cell 3 _ rfl; have c4 := hB.cell 4 _ rfl; have c5 := hB.cell 5 _ rfl; have c6 := hB.cell 6 _ rfl; have c7 := hB.cell 7 _ rfl; have c8 := hB.cell 8 _ rfl
      go_enter Tryz.func9, Tryz.ntmps9
      go_wp2_with fail
      go_ret
      exact ⟨rfl, hb⟩
    · rw [if_neg (fun h => h.elim hx hy)] at hk
      have g2 : decide (3000 < (wt.size : Int)) = false := by simp; omega
      have hc := M.wrong_cases ⟨lb.data.toList, en, wy, wt.data.toList, ⟨se, rs.data.toList, sg, fr, st⟩⟩
      rw [hk] at hc
      simp only at hc
      clear hx hy
      rcases hc with ⟨h1, rfl⟩ | ⟨h1, h2, rfl⟩ | ⟨rfl, h2, rfl⟩ | ⟨h1, rfl, rfl⟩ | ⟨rfl, rfl, h3, rfl⟩ | ⟨rfl, rfl, h3, h4, rfl⟩ | ⟨rfl, rfl, h3, h4, rfl⟩ | ⟨h1, h2, h3, rfl⟩ | ⟨h1, h2, h3, h4, rfl⟩ | ⟨h1, h2, h3, rfl, h5⟩
      · have H1 := Lib.hid (show decide ((0 : Int) ≤ en ∧ en ≤ 7) = false by simp; omega)
        clear h1
        have c0 := hB.cell 0 _ rfl; have c1 := hB.cell 1 _ rfl; have c2 := hB.cell 2 _ rfl; have c3 := hB.cell 3 _ rfl; have c4 := hB.cell 4 _ rfl; have c5 := hB.cell 5 _ rfl; have c6 := hB.cell 6 _ rfl; have c7 := hB.cell 7 _ rfl; have c8 := hB.cell 8 _ rfl
        clear hk
        go_enter Tryz.func9, Tryz.ntmps9
        go_wp2_with (first | (go_at_call 24; (first | with_reducible refine (betweenF_to _ _ _ _ H1.out _).mono ?_ | with_reducible refine (betweenF_to _ _ _ _ H2.out _).mono ?_); rintro e w' ⟨rfl, rfl⟩) | (go_at_call 25; refine (isEnough_to _ _ _ HN.out hl _).mono ?_; rintro e w' ⟨rfl, b1⟩; have hb := hb.trans b1; have hB := hB.bel b1; clear b1; have c0 := hB.cell 0 _ rfl; have c1 := hB.cell 1 _ rfl; have c2 := hB.cell 2 _ rfl; have c3 := hB.cell 3 _ rfl; have c4 := hB.cell 4 _ rfl; have c5 := hB.cell 5 _ rfl; have c6 := hB.cell 6 _ rfl; have c7 := hB.cell 7 _ rfl; have c8 := hB.cell 8 _ rfl) | (go_at_call 26; refine (checkState_any _ _ _ _ _ _ HQ.out _).mono ?_; rintro e w' ⟨rfl, b1⟩; have hb := hb.trans b1; have hB := hB.bel b1; clear b1; have c0 := hB.cell 0 _ rfl; have c1 := hB.cell 1 _ rfl; have c2 := hB.cell 2 _ rfl; have c3 := hB.cell 3 _ rfl; have c4 := hB.cell 4 _ rfl; have c5 := hB.cell 5 _ rfl; have c6 := hB.cell 6 _ rfl; have c7 := hB.cell 7 _ rfl; have c8 := hB.cell 8 _ rfl))
        go_ret
        exact ⟨rfl, hb⟩
      · have H1 := Lib.hid (show decide ((0 : Int) ≤ en ∧ en ≤ 7) = true by simp; omega)
        have H2 := Lib.hid (show decide ((0 : Int) ≤ wy ∧ wy ≤ 4) = false by simp; omega)
        have g5 : (wy == 0) = false := by simp; omega
        have g6 : (wy != 0) = true := by simp; omega
        clear h1 h2
        have c0 := hB.cell 0 _ rfl; have c1 := hB.cell 1 _ rfl; have c2 := hB.cell 2 _ rfl; have c3 := hB.cell 3 _ rfl; have c4 := hB.cell 4 _ rfl; have c5 := hB.cell 5 _ rfl; have c6 := hB.cell 6 _ rfl; have c7 := hB.cell 7 _ rfl; have c8 := hB.cell 8 _ rfl
        clear hk
        go_enter Tryz.func9, Tryz.ntmps9
        go_wp2_with (first | (go_at_call 24; (first | with_reducible refine (betweenF_to _ _ _ _ H1.out _).mono ?_ | with_reducible refine (betweenF_to _ _ _ _ H2.out _).mono ?_); rintro e w' ⟨rfl, rfl⟩) | (go_at_call 25; refine (isEnough_to _ _ _ HN.out hl _).mono ?_; rintro e w' ⟨rfl, b1⟩; have hb := hb.trans b1; have hB := hB.bel b1; clear b1; have c0 := hB.cell 0 _ rfl; have c1 := hB.cell 1 _ rfl; have c2 := hB.cell 2 _ rfl; have c3 := hB.cell 3 _ rfl; have c4 := hB.cell 4 _ rfl; have c5 := hB.cell 5 _ rfl; have c6 := hB.cell 6 _ rfl; have c7 := hB.cell 7 _ rfl; have c8 := hB.cell 8 _ rfl) | (go_at_call 26; refine (checkState_any _ _ _ _ _ _ HQ.out _).mono ?_; rintro e w' ⟨rfl, b1⟩; have hb := hb.trans b1; have hB := hB.bel b1; clear b1; have c0 := hB.cell 0 _ rfl; have c1 := hB.cell 1 _ rfl; have c2 := hB.cell 2 _ rfl; have c3 := hB.cell 3 _ rfl; have c4 := hB.cell 4 _ rfl; have c5 := hB.cell 5 _ rfl; have c6 := hB.cell 6 _ rfl; have c7 := hB.cell 7 _ rfl; have c8 := hB.cell 8 _ rfl))
        go_ret
        exact ⟨rfl, hb⟩
      · skip
        skip
        have H1 := Lib.hid (show decide ((0 : Int) ≤ 0 ∧ (0 : Int) ≤ 7) = true by decide)
        have g5 : (wy == 0) = false := by simp; omega
        have g6 : (wy != 0) = true := by simp; omega
        have H2 := Lib.hid (show decide ((0 : Int) ≤ wy ∧ wy ≤ 4) = true by simp; omega)
        clear h2
        have c0 := hB.cell 0 _ rfl; have c1 := hB.cell 1 _ rfl; have c2 := hB.cell 2 _ rfl; have c3 := hB.cell 3 _ rfl; have c4 := hB.cell 4 _ rfl; have c5 := hB.cell 5 _ rfl; have c6 := hB.cell 6 _ rfl; have c7 := hB.cell 7 _ rfl; have c8 := hB.cell 8 _ rfl
        clear hk
        go_enter Tryz.func9, Tryz.ntmps9
        go_wp2_with (first | (go_at_call 24; (first | with_reducible refine (betweenF_to _ _ _ _ H1.out _).mono ?_ | with_reducible refine (betweenF_to _ _ _ _ H2.out _).mono ?_); rintro e w' ⟨rfl, rfl⟩) | (go_at_call 25; refine (isEnough_to _ _ _ HN.out hl _).mono ?_; rintro e w' ⟨rfl, b1⟩; have hb := hb.trans b1; have hB := hB.bel b1; clear b1; have c0 := hB.cell 0 _ rfl; have c1 := hB.cell 1 _ rfl; have c2 := hB.cell 2 _ rfl; have c3 := hB.cell 3 _ rfl; have c4 := hB.cell 4 _ rfl; have c5 := hB.cell 5 _ rfl; have c6 := hB.cell 6 _ rfl; have c7 := hB.cell 7 _ rfl; have c8 := hB.cell 8 _ rfl) | (go_at_call 26; refine (checkState_any _ _ _ _ _ _ HQ.out _).mono ?_; rintro e w' ⟨rfl, b1⟩; have hb := hb.trans b1; have hB := hB.bel b1; clear b1; have c0 := hB.cell 0 _ rfl; have c1 := hB.cell 1 _ rfl; have c2 := hB.cell 2 _ rfl; have c3 := hB.cell 3 _ rfl; have c4 := hB.cell 4 _ rfl; have c5 := hB.cell 5 _ rfl; have c6 := hB.cell 6 _ rfl; have c7 := hB.cell 7 _ rfl; have c8 := hB.cell 8 _ rfl))
        go_ret
        exact ⟨rfl, hb⟩
      · skip
        skip
        have g7 : (en == 0) = false := by simp; omega
        have g8 : (en != 0) = true := by simp; omega
        have H1 := Lib.hid (show decide ((0 : Int) ≤ en ∧ en ≤ 7) = true by simp; omega)
        have H2 := Lib.hid (show decide ((0 : Int) ≤ 0 ∧ (0 : Int) ≤ 4) = true by decide)
        clear h1
        have c0 := hB.cell 0 _ rfl; have c1 := hB.cell 1 _ rfl; have c2 := hB.cell 2 _ rfl; have c3 := hB.cell 3 _ rfl; have c4 := hB.cell 4 _ rfl; have c5 := hB.cell 5 _ rfl; have c6 := hB.cell 6 _ rfl; have c7 := hB.cell 7 _ rfl; have c8 := hB.cell 8 _ rfl
        clear hk
        go_enter Tryz.func9, Tryz.ntmps9
        go_wp2_with (first | (go_at_call 24; (first | with_reducible refine (betweenF_to _ _ _ _ H1.out _).mono ?_ | with_reducible refine (betweenF_to _ _ _ _ H2.out _).mono ?_); rintro e w' ⟨rfl, rfl⟩) | (go_at_call 25; refine (isEnough_to _ _ _ HN.out hl _).mono ?_; rintro e w' ⟨rfl, b1⟩; have hb := hb.trans b1; have hB := hB.bel b1; clear b1; have c0 := hB.cell 0 _ rfl; have c1 := hB.cell 1 _ rfl; have c2 := hB.cell 2 _ rfl; have c3 := hB.cell 3 _ rfl; have c4 := hB.cell 4 _ rfl; have c5 := hB.cell 5 _ rfl; have c6 := hB.cell 6 _ rfl; have c7 := hB.cell 7 _ rfl; have c8 := hB.cell 8 _ rfl) | (go_at_call 26; refine (checkState_any _ _ _ _ _ _ HQ.out _).mono ?_; rintro e w' ⟨rfl, b1⟩; have hb := hb.trans b1; have hB := hB.bel b1; clear b1; have c0 := hB.cell 0 _ rfl; have c1 := hB.cell 1 _ rfl; have c2 := hB.cell 2 _ rfl; have c3 := hB.cell 3 _ rfl; have c4 := hB.cell 4 _ rfl; have c5 := hB.cell 5 _ rfl; have c6 := hB.cell 6 _ rfl; have c7 := hB.cell 7 _ rfl; have c8 := hB.cell 8 _ rfl))
        go_ret
        exact ⟨rfl, hb⟩
      · skip
        skip
        have H1 := Lib.hid (show decide ((0 : Int) ≤ 0 ∧ (0 : Int) ≤ 7) = true by decide)
        skip
        have H2 := Lib.hid (show decide ((0 : Int) ≤ 0 ∧ (0 : Int) ≤ 4) = true by decide)
        by_cases s1 : se = 0
        · subst s1
          by_cases s2 : rs.toList = []
          · by_cases s3 : sg = 0
            · subst s3
              cases fr with
              | true =>
                clear h3
                have c0 := hB.cell 0 _ rfl; have c1 := hB.cell 1 _ rfl; have c2 := hB.cell 2 _ rfl; have c3 := hB.cell 3 _ rfl; have c4 := hB.cell 4 _ rfl; have c5 := hB.cell 5 _ rfl; have c6 := hB.cell 6 _ rfl; have c7 := hB.cell 7 _ rfl; have c8 := hB.cell 8 _ rfl
                clear hk
                go_enter Tryz.func9, Tryz.ntmps9
                go_wp2_with (first | (go_at_call 24; (first | with_reducible refine (betweenF_to _ _ _ _ H1.out _).mono ?_ | with_reducible refine (betweenF_to _ _ _ _ H2.out _).mono ?_); rintro e w' ⟨rfl, rfl⟩) | (go_at_call 25; refine (isEnough_to _ _ _ HN.out hl _).mono ?_; rintro e w' ⟨rfl, b1⟩; have hb := hb.trans b1; have hB := hB.bel b1; clear b1; have c0 := hB.cell 0 _ rfl; have c1 := hB.cell 1 _ rfl; have c2 := hB.cell 2 _ rfl; have c3 := hB.cell 3 _ rfl; have c4 := hB.cell 4 _ rfl; have c5 := hB.cell 5 _ rfl; have c6 := hB.cell 6 _ rfl; have c7 := hB.cell 7 _ rfl; have c8 := hB.cell 8 _ rfl) | (go_at_call 26; refine (checkState_any _ _ _ _ _ _ HQ.out _).mono ?_; rintro e w' ⟨rfl, b1⟩; have hb := hb.trans b1; have hB := hB.bel b1; clear b1; have c0 := hB.cell 0 _ rfl; have c1 := hB.cell 1 _ rfl; have c2 := hB.cell 2 _ rfl; have c3 := hB.cell 3 _ rfl; have c4 := hB.cell 4 _ rfl; have c5 := hB.cell 5 _ rfl; have c6 := hB.cell 6 _ rfl; have c7 := hB.cell 7 _ rfl; have c8 := hB.cell 8 _ rfl))
                go_ret
                exact ⟨rfl, hb⟩
              | false =>
                cases st with
                | true =>
                  clear h3
                  have c0 := hB.cell 0 _ rfl; have c1 := hB.cell 1 _ rfl; have c2 := hB.cell 2 _ rfl; have c3 := hB.cell 3 _ rfl; have c4 := hB.cell 4 _ rfl; have c5 := hB.cell 5 _ rfl; have c6 := hB.cell 6 _ rfl; have c7 := hB.cell 7 _ rfl; have c8 := hB.cell 8 _ rfl
                  clear hk
                  go_enter Tryz.func9, Tryz.ntmps9
                  go_wp2_with (first | (go_at_call 24; (first | with_reducible refine (betweenF_to _ _ _ _ H1.out _).mono ?_ | with_reducible refine (betweenF_to _ _ _ _ H2.out _).mono ?_); rintro e w' ⟨rfl, rfl⟩) | (go_at_call 25; refine (isEnough_to _ _ _ HN.out hl _).mono ?_; rintro e w' ⟨rfl, b1⟩; have hb := hb.trans b1; have hB := hB.bel b1; clear b1; have c0 := hB.cell 0 _ rfl; have c1 := hB.cell 1 _ rfl; have c2 := hB.cell 2 _ rfl; have c3 := hB.cell 3 _ rfl; have c4 := hB.cell 4 _ rfl; have c5 := hB.cell 5 _ rfl; have c6 := hB.cell 6 _ rfl; have c7 := hB.cell 7 _ rfl; have c8 := hB.cell 8 _ rfl) | (go_at_call 26; refine (checkState_any _ _ _ _ _ _ HQ.out _).mono ?_; rintro e w' ⟨rfl, b1⟩; have hb := hb.trans b1; have hB := hB.bel b1; clear b1; have c0 := hB.cell 0 _ rfl; have c1 := hB.cell 1 _ rfl; have c2 := hB.cell 2 _ rfl; have c3 := hB.cell 3 _ rfl; have c4 := hB.cell 4 _ rfl; have c5 := hB.cell 5 _ rfl; have c6 := hB.cell 6 _ rfl; have c7 := hB.cell 7 _ rfl; have c8 := hB.cell 8 _ rfl))
                  go_ret
                  exact ⟨rfl, hb⟩
                | false =>
                  exfalso
                  rw [Lib.toList_data] at s2
                  rw [s2] at h3
                  cases h3
            · clear h3
              have c0 := hB.cell 0 _ rfl; have c1 := hB.cell 1 _ rfl; have c2 := hB.cell 2 _ rfl; have c3 := hB.cell 3 _ rfl; have c4 := hB.cell 4 _ rfl; have c5 := hB.cell 5 _ rfl; have c6 := hB.cell 6 _ rfl; have c7 := hB.cell 7 _ rfl; have c8 := hB.cell 8 _ rfl
              clear hk
              go_enter Tryz.func9, Tryz.ntmps9
              go_wp2_with (first | (go_at_call 24; (first | with_reducible refine (betweenF_to _ _ _ _ H1.out _).mono ?_ | with_reducible refine (betweenF_to _ _ _ _ H2.out _).mono ?_); rintro e w' ⟨rfl, rfl⟩) | (go_at_call 25; refine (isEnough_to _ _ _ HN.out hl _).mono ?_; rintro e w' ⟨rfl, b1⟩; have hb := hb.trans b1; have hB := hB.bel b1; clear b1; have c0 := hB.cell 0 _ rfl; have c1 := hB.cell 1 _ rfl; have c2 := hB.cell 2 _ rfl; have c3 := hB.cell 3 _ rfl; have c4 := hB.cell 4 _ rfl; have c5 := hB.cell 5 _ rfl; have c6 := hB.cell 6 _ rfl; have c7 := hB.cell 7 _ rfl; have c8 := hB.cell 8 _ rfl) | (go_at_call 26; refine (checkState_any _ _ _ _ _ _ HQ.out _).mono ?_; rintro e w' ⟨rfl, b1⟩; have hb := hb.trans b1; have hB := hB.bel b1; clear b1; have c0 := hB.cell 0 _ rfl; have c1 := hB.cell 1 _ rfl; have c2 := hB.cell 2 _ rfl; have c3 := hB.cell 3 _ rfl; have c4 := hB.cell 4 _ rfl; have c5 := hB.cell 5 _ rfl; have c6 := hB.cell 6 _ rfl; have c7 := hB.cell 7 _ rfl; have c8 := hB.cell 8 _ rfl))
              go_ret
              exact ⟨rfl, hb⟩
          · clear h3
            have c0 := hB.cell 0 _ rfl; have c1 := hB.cell 1 _ rfl; have c2 := hB.cell 2 _ rfl; have c3 := hB.cell 3 _ rfl; have c4 := hB.cell 4 _ rfl; have c5 := hB.cell 5 _ rfl; have c6 := hB.cell 6 _ rfl; have c7 := hB.cell 7 _ rfl; have c8 := hB.cell 8 _ rfl
            clear hk
            go_enter Tryz.func9, Tryz.ntmps9
            go_wp2_with (first | (go_at_call 24; (first | with_reducible refine (betweenF_to _ _ _ _ H1.out _).mono ?_ | with_reducible refine (betweenF_to _ _ _ _ H2.out _).mono ?_); rintro e w' ⟨rfl, rfl⟩) | (go_at_call 25; refine (isEnough_to _ _ _ HN.out hl _).mono ?_; rintro e w' ⟨rfl, b1⟩; have hb := hb.trans b1; have hB := hB.bel b1; clear b1; have c0 := hB.cell 0 _ rfl; have c1 := hB.cell 1 _ rfl; have c2 := hB.cell 2 _ rfl; have c3 := hB.cell 3 _ rfl; have c4 := hB.cell 4 _ rfl; have c5 := hB.cell 5 _ rfl; have c6 := hB.cell 6 _ rfl; have c7 := hB.cell 7 _ rfl; have c8 := hB.cell 8 _ rfl) | (go_at_call 26; refine (checkState_any _ _ _ _ _ _ HQ.out _).mono ?_; rintro e w' ⟨rfl, b1⟩; have hb := hb.trans b1; have hB := hB.bel b1; clear b1; have c0 := hB.cell 0 _ rfl; have c1 := hB.cell 1 _ rfl; have c2 := hB.cell 2 _ rfl; have c3 := hB.cell 3 _ rfl; have c4 := hB.cell 4 _ rfl; have c5 := hB.cell 5 _ rfl; have c6 := hB.cell 6 _ rfl; have c7 := hB.cell 7 _ rfl; have c8 := hB.cell 8 _ rfl))
            go_ret
            exact ⟨rfl, hb⟩
        · clear h3
          have c0 := hB.cell 0 _ rfl; have c1 := hB.cell 1 _ rfl; have c2 := hB.cell 2 _ rfl; have c3 := hB.cell 3 _ rfl; have c4 := hB.cell 4 _ rfl; have c5 := hB.cell 5 _ rfl; have c6 := hB.cell 6 _ rfl; have c7 := hB.cell 7 _ rfl; have c8 := hB.cell 8 _ rfl
          clear hk
          go_enter Tryz.func9, Tryz.ntmps9
          go_wp2_with (first | (go_at_call 24; (first | with_reducible refine (betweenF_to _ _ _ _ H1.out _).mono ?_ | with_reducible refine (betweenF_to _ _ _ _ H2.out _).mono ?_); rintro e w' ⟨rfl, rfl⟩) | (go_at_call 25; refine (isEnough_to _ _ _ HN.out hl _).mono ?_; rintro e w' ⟨rfl, b1⟩; have hb := hb.trans b1; have hB := hB.bel b1; clear b1; have c0 := hB.cell 0 _ rfl; have c1 := hB.cell 1 _ rfl; have c2 := hB.cell 2 _ rfl; have c3 := hB.cell 3 _ rfl; have c4 := hB.cell 4 _ rfl; have c5 := hB.cell 5 _ rfl; have c6 := hB.cell 6 _ rfl; have c7 := hB.cell 7 _ rfl; have c8 := hB.cell 8 _ rfl) | (go_at_call 26; refine (checkState_any _ _ _ _ _ _ HQ.out _).mono ?_; rintro e w' ⟨rfl, b1⟩; have hb := hb.trans b1; have hB := hB.bel b1; clear b1; have c0 := hB.cell 0 _ rfl; have c1 := hB.cell 1 _ rfl; have c2 := hB.cell 2 _ rfl; have c3 := hB.cell 3 _ rfl; have c4 := hB.cell 4 _ rfl; have c5 := hB.cell 5 _ rfl; have c6 := hB.cell 6 _ rfl; have c7 := hB.cell 7 _ rfl; have c8 := hB.cell 8 _ rfl))
          go_ret
          exact ⟨rfl, hb⟩
      · obtain hz := (M.emptySt_iff _).1 h3
        simp only [M.zst, M.St.mk.injEq] at hz
        obtain ⟨rfl, hrs, rfl, rfl, rfl⟩ := hz
        obtain rfl : rs = ⟨#[]⟩ := by
          apply ByteArray.ext
          simpa using hrs
        have H1 := Lib.hid (show decide ((0 : Int) ≤ 0 ∧ (0 : Int) ≤ 7) = true by decide)
        have H2 := Lib.hid (show decide ((0 : Int) ≤ 0 ∧ (0 : Int) ≤ 4) = true by decide)
        have HN := Lib.hid h4
        clear h3 h4 hrs
        have c0 := hB.cell 0 _ rfl; have c1 := hB.cell 1 _ rfl; have c2 := hB.cell 2 _ rfl; have c3 := hB.cell 3 _ rfl; have c4 := hB.cell 4 _ rfl; have c5 := hB.cell 5 _ rfl; have c6 := hB.cell 6 _ rfl; have c7 := hB.cell 7 _ rfl; have c8 := hB.cell 8 _ rfl
        clear hk
        go_enter Tryz.func9, Tryz.ntmps9
        go_wp2_with (first | (go_at_call 24; (first | with_reducible refine (betweenF_to _ _ _ _ H1.out _).mono ?_ | with_reducible refine (betweenF_to _ _ _ _ H2.out _).mono ?_); rintro e w' ⟨rfl, rfl⟩) | (go_at_call 25; refine (isEnough_to _ _ _ HN.out hl _).mono ?_; rintro e w' ⟨rfl, b1⟩; have hb := hb.trans b1; have hB := hB.bel b1; clear b1; have c0 := hB.cell 0 _ rfl; have c1 := hB.cell 1 _ rfl; have c2 := hB.cell 2 _ rfl; have c3 := hB.cell 3 _ rfl; have c4 := hB.cell 4 _ rfl; have c5 := hB.cell 5 _ rfl; have c6 := hB.cell 6 _ rfl; have c7 := hB.cell 7 _ rfl; have c8 := hB.cell 8 _ rfl) | (go_at_call 26; refine (checkState_any _ _ _ _ _ _ HQ.out _).mono ?_; rintro e w' ⟨rfl, b1⟩; have hb := hb.trans b1; have hB := hB.bel b1; clear b1; have c0 := hB.cell 0 _ rfl; have c1 := hB.cell 1 _ rfl; have c2 := hB.cell 2 _ rfl; have c3 := hB.cell 3 _ rfl; have c4 := hB.cell 4 _ rfl; have c5 := hB.cell 5 _ rfl; have c6 := hB.cell 6 _ rfl; have c7 := hB.cell 7 _ rfl; have c8 := hB.cell 8 _ rfl))
        go_ret
        exact ⟨rfl, hb⟩
      · obtain hz := (M.emptySt_iff _).1 h3
        simp only [M.zst, M.St.mk.injEq] at hz
        obtain ⟨rfl, hrs, rfl, rfl, rfl⟩ := hz
        obtain rfl : rs = ⟨#[]⟩ := by
          apply ByteArray.ext
          simpa using hrs
        have H1 := Lib.hid (show decide ((0 : Int) ≤ 0 ∧ (0 : Int) ≤ 7) = true by decide)
        have H2 := Lib.hid (show decide ((0 : Int) ≤ 0 ∧ (0 : Int) ≤ 4) = true by decide)
        have HN := Lib.hid h4
        clear h3 h4 hrs
        have c0 := hB.cell 0 _ rfl; have c1 := hB.cell 1 _ rfl; have c2 := hB.cell 2 _ rfl; have c3 := hB.cell 3 _ rfl; have c4 := hB.cell 4 _ rfl; have c5 := hB.cell 5 _ rfl; have c6 := hB.cell 6 _ rfl; have c7 := hB.cell 7 _ rfl; have c8 := hB.cell 8 _ rfl
        clear hk
        go_enter Tryz.func9, Tryz.ntmps9
        go_wp2_with (first | (go_at_call 24; (first | with_reducible refine (betweenF_to _ _ _ _ H1.out _).mono ?_ | with_reducible refine (betweenF_to _ _ _ _ H2.out _).mono ?_); rintro e w' ⟨rfl, rfl⟩) | (go_at_call 25; refine (isEnough_to _ _ _ HN.out hl _).mono ?_; rintro e w' ⟨rfl, b1⟩; have hb := hb.trans b1; have hB := hB.bel b1; clear b1; have c0 := hB.cell 0 _ rfl; have c1 := hB.cell 1 _ rfl; have c2 := hB.cell 2 _ rfl; have c3 := hB.cell 3 _ rfl; have c4 := hB.cell 4 _ rfl; have c5 := hB.cell 5 _ rfl; have c6 := hB.cell 6 _ rfl; have c7 := hB.cell 7 _ rfl; have c8 := hB.cell 8 _ rfl) | (go_at_call 26; refine (checkState_any _ _ _ _ _ _ HQ.out _).mono ?_; rintro e w' ⟨rfl, b1⟩; have hb := hb.trans b1; have hB := hB.bel b1; clear b1; have c0 := hB.cell 0 _ rfl; have c1 := hB.cell 1 _ rfl; have c2 := hB.cell 2 _ rfl; have c3 := hB.cell 3 _ rfl; have c4 := hB.cell 4 _ rfl; have c5 := hB.cell 5 _ rfl; have c6 := hB.cell 6 _ rfl; have c7 := hB.cell 7 _ rfl; have c8 := hB.cell 8 _ rfl))
        go_ret
        exact ⟨rfl, hb⟩
      · skip
        skip
        have g7 : (en == 0) = false := by simp; omega
        have g8 : (en != 0) = true := by simp; omega
        have H1 := Lib.hid (show decide ((0 : Int) ≤ en ∧ en ≤ 7) = true by simp; omega)
        skip
        have g5 : (wy == 0) = false := by simp; omega
        have g6 : (wy != 0) = true := by simp; omega
        have H2 := Lib.hid (show decide ((0 : Int) ≤ wy ∧ wy ≤ 4) = true by simp; omega)
        have g9 : wt.toList.isEmpty = false := by rw [Lib.toList_data]; cases hq : wt.data.toList with | nil => exact absurd hq h3 | cons a l => rfl
        clear h1 h2 h3
        have c0 := hB.cell 0 _ rfl; have c1 := hB.cell 1 _ rfl; have c2 := hB.cell 2 _ rfl; have c3 := hB.cell 3 _ rfl; have c4 := hB.cell 4 _ rfl; have c5 := hB.cell 5 _ rfl; have c6 := hB.cell 6 _ rfl; have c7 := hB.cell 7 _ rfl; have c8 := hB.cell 8 _ rfl
        clear hk
        go_enter Tryz.func9, Tryz.ntmps9
        go_wp2_with (first | (go_at_call 24; (first | with_reducible refine (betweenF_to _ _ _ _ H1.out _).mono ?_ | with_reducible refine (betweenF_to _ _ _ _ H2.out _).mono ?_); rintro e w' ⟨rfl, rfl⟩) | (go_at_call 25; refine (isEnough_to _ _ _ HN.out hl _).mono ?_; rintro e w' ⟨rfl, b1⟩; have hb := hb.trans b1; have hB := hB.bel b1; clear b1; have c0 := hB.cell 0 _ rfl; have c1 := hB.cell 1 _ rfl; have c2 := hB.cell 2 _ rfl; have c3 := hB.cell 3 _ rfl; have c4 := hB.cell 4 _ rfl; have c5 := hB.cell 5 _ rfl; have c6 := hB.cell 6 _ rfl; have c7 := hB.cell 7 _ rfl; have c8 := hB.cell 8 _ rfl) | (go_at_call 26; refine (checkState_any _ _ _ _ _ _ HQ.out _).mono ?_; rintro e w' ⟨rfl, b1⟩; have hb := hb.trans b1; have hB := hB.bel b1; clear b1; have c0 := hB.cell 0 _ rfl; have c1 := hB.cell 1 _ rfl; have c2 := hB.cell 2 _ rfl; have c3 := hB.cell 3 _ rfl; have c4 := hB.cell 4 _ rfl; have c5 := hB.cell 5 _ rfl; have c6 := hB.cell 6 _ rfl; have c7 := hB.cell 7 _ rfl; have c8 := hB.cell 8 _ rfl))
        go_ret
        exact ⟨rfl, hb⟩
      · skip
        skip
        have g7 : (en == 0) = false := by simp; omega
        have g8 : (en != 0) = true := by simp; omega
        have H1 := Lib.hid (show decide ((0 : Int) ≤ en ∧ en ≤ 7) = true by simp; omega)
        skip
        have g5 : (wy == 0) = false := by simp; omega
        have g6 : (wy != 0) = true := by simp; omega
        have H2 := Lib.hid (show decide ((0 : Int) ≤ wy ∧ wy ≤ 4) = true by simp; omega)
        have g9 : (se != en) = true := by simpa using h4
        obtain rfl : wt = ⟨#[]⟩ := by
          apply ByteArray.ext
          simpa using h3
        clear h1 h2 h3 h4
        have c0 := hB.cell 0 _ rfl; have c1 := hB.cell 1 _ rfl; have c2 := hB.cell 2 _ rfl; have c3 := hB.cell 3 _ rfl; have c4 := hB.cell 4 _ rfl; have c5 := hB.cell 5 _ rfl; have c6 := hB.cell 6 _ rfl; have c7 := hB.cell 7 _ rfl; have c8 := hB.cell 8 _ rfl
        clear hk
        go_enter Tryz.func9, Tryz.ntmps9
        go_wp2_with (first | (go_at_call 24; (first | with_reducible refine (betweenF_to _ _ _ _ H1.out _).mono ?_ | with_reducible refine (betweenF_to _ _ _ _ H2.out _).mono ?_); rintro e w' ⟨rfl, rfl⟩) | (go_at_call 25; refine (isEnough_to _ _ _ HN.out hl _).mono ?_; rintro e w' ⟨rfl, b1⟩; have hb := hb.trans b1; have hB := hB.bel b1; clear b1; have c0 := hB.cell 0 _ rfl; have c1 := hB.cell 1 _ rfl; have c2 := hB.cell 2 _ rfl; have c3 := hB.cell 3 _ rfl; have c4 := hB.cell 4 _ rfl; have c5 := hB.cell 5 _ rfl; have c6 := hB.cell 6 _ rfl; have c7 := hB.cell 7 _ rfl; have c8 := hB.cell 8 _ rfl) | (go_at_call 26; refine (checkState_any _ _ _ _ _ _ HQ.out _).mono ?_; rintro e w' ⟨rfl, b1⟩; have hb := hb.trans b1; have hB := hB.bel b1; clear b1; have c0 := hB.cell 0 _ rfl; have c1 := hB.cell 1 _ rfl; have c2 := hB.cell 2 _ rfl; have c3 := hB.cell 3 _ rfl; have c4 := hB.cell 4 _ rfl; have c5 := hB.cell 5 _ rfl; have c6 := hB.cell 6 _ rfl; have c7 := hB.cell 7 _ rfl; have c8 := hB.cell 8 _ rfl))
        go_ret
        exact ⟨rfl, hb⟩
      · have g7 : (se == 0) = false := by simp; omega
        have g8 : (se != 0) = true := by simp; omega
        have H1 := Lib.hid (show decide ((0 : Int) ≤ se ∧ se ≤ 7) = true by simp; omega)
        skip
        have g5 : (wy == 0) = false := by simp; omega
        have g6 : (wy != 0) = true := by simp; omega
        have H2 := Lib.hid (show decide ((0 : Int) ≤ wy ∧ wy ≤ 4) = true by simp; omega)
        have HQ := Lib.hid h5.symm
        obtain rfl : wt = ⟨#[]⟩ := by
          apply ByteArray.ext
          simpa using h3
        clear h1 h2 h3 h5
        have c0 := hB.cell 0 _ rfl; have c1 := hB.cell 1 _ rfl; have c2 := hB.cell 2 _ rfl; have c3 := hB.cell 3 _ rfl; have c4 := hB.cell 4 _ rfl; have c5 := hB.cell 5 _ rfl; have c6 := hB.cell 6 _ rfl; have c7 := hB.cell 7 _ rfl; have c8 := hB.cell 8 _ rfl
        clear hk
        go_enter Tryz.func9, Tryz.ntmps9
        go_wp2_with (first | (go_at_call 24; (first | with_reducible refine (betweenF_to _ _ _ _ H1.out _).mono ?_ | with_reducible refine (betweenF_to _ _ _ _ H2.out _).mono ?_); rintro e w' ⟨rfl, rfl⟩) | (go_at_call 25; refine (isEnough_to _ _ _ HN.out hl _).mono ?_; rintro e w' ⟨rfl, b1⟩; have hb := hb.trans b1; have hB := hB.bel b1; clear b1; have c0 := hB.cell 0 _ rfl; have c1 := hB.cell 1 _ rfl; have c2 := hB.cell 2 _ rfl; have c3 := hB.cell 3 _ rfl; have c4 := hB.cell 4 _ rfl; have c5 := hB.cell 5 _ rfl; have c6 := hB.cell 6 _ rfl; have c7 := hB.cell 7 _ rfl; have c8 := hB.cell 8 _ rfl) | (go_at_call 26; refine (checkState_any _ _ _ _ _ _ HQ.out _).mono ?_; rintro e w' ⟨rfl, b1⟩; have hb := hb.trans b1; have hB := hB.bel b1; clear b1; have c0 := hB.cell 0 _ rfl; have c1 := hB.cell 1 _ rfl; have c2 := hB.cell 2 _ rfl; have c3 := hB.cell 3 _ rfl; have c4 := hB.cell 4 _ rfl; have c5 := hB.cell 5 _ rfl; have c6 := hB.cell 6 _ rfl; have c7 := hB.cell 7 _ rfl; have c8 := hB.cell 8 _ rfl))
        go_ret
        exact ⟨rfl, hb⟩
end Go.Proofs.YtcgdecpjlggekaaGreatDoor

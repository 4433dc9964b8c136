/-
  Package utf16: what All, Decode, Encode compute.
-/
import Derived.Test.YtmekemlhhjnjjaaUtf16
import Derived.Test.YtmekemlhhjnjjaaUtf8c
namespace Go.Proofs.Ytmekemlhhjnjjaa
open Go.RowKit
set_option maxRecDepth 1000000

theorem told16_to (big : Bool) (s : ByteArray) (xs : List Int) (l : List UInt8) (h : M.told16 big s.data.toList = (xs, l)) (hs : s.size ≤ 68719476735) (w : World) : Calls Try.prog 94 #[.bool big, .string s] w fun e w' => ∃ v, e = .returned (.tuple #[v, .string ⟨l.toArray⟩]) ∧ Own w.heap.size 3 w' v (xs.map (Value.int .i64)) ∧ Bel w w' := by
  have := told16_any big s hs w; rw [h] at this; exact this
theorem all16_any (big : Bool) (s : ByteArray) (hs : s.size ≤ 68719476734) (w : World) : Calls Try.prog 70 #[.bool big, .string s] w fun e w' => ∃ v, e = .returned v ∧ Own w.heap.size 3 w' v ((M.all16 big s.data.toList).map (Value.int .i64)) ∧ Bel w w' := by
  obtain ⟨⟨xs, l⟩, ht⟩ : ∃ r, M.told16 big s.data.toList = r := ⟨_, rfl⟩
  have hlen := (M.told16_len big _ s.data.toList (Nat.le_refl _)).1
  rw [ht, ← Lib.size_eq] at hlen
  have Ht := Lib.hid ht
  by_cases he : l = []
  · subst he
    have HA := Lib.hid (show M.all16 big s.data.toList = xs by rw [M.all16, ht, if_pos rfl])
    clear ht hlen
    go_enter Try.func70, Try.ntmps70
    go_wp2_with (go_at_call 94; refine (told16_to _ _ _ _ Ht.out (by omega) _).mono ?_; rintro e w' ⟨v, rfl, ho, hb⟩)
    go_ret
    rw [HA.out]
    exact ⟨_, rfl, by assumption, by assumption⟩
  · have HA := Lib.hid (show M.all16 big s.data.toList = xs ++ [65533] by rw [M.all16, ht, if_neg he])
    have e1 : (!l.isEmpty) = true := by simpa using he
    have hl2 : xs.length ≤ s.size := by simp only at hlen; omega
    clear ht hlen he
    go_enter Try.func70, Try.ntmps70
    go_wp2_with (first | (go_at_call 94; refine (told16_to _ _ _ _ Ht.out (by omega) _).mono ?_; rintro e w' ⟨v, rfl, ho, hb⟩; have hB := hb.size) | (at_builtin; refine wpList_app rfl (.tmp 15) (.tmp 16) 30 rfl elemInt (by decide) w.heap.size _ _ _ rfl rfl ho rfl (by simp; omega) (by first | exact Nat.le_refl _ | assumption | (have := hb.size; omega)) ?_; intro v' w1 hown' hb1))
    go_ret
    rw [HA.out]
    exact ⟨_, rfl, by rw [List.map_append]; exact hown', hb.upto hb1 (Nat.le_refl _)⟩
theorem dec16_any (big : Bool) (s : ByteArray) (w : World) : Calls Try.prog 35 #[.bool big, .string s] w fun e w' => ∃ v, e = .returned (.tuple #[v, .int .i64 (M.dec16 big s.data.toList).2]) ∧ Own w.heap.size 3 w' v ((M.dec16 big s.data.toList).1.map (Value.int .i64)) ∧ Bel w w' := by
  by_cases h : 3000 < s.size
  · have H := Lib.hid (show M.dec16 big s.data.toList = ([], 2) by rw [M.dec16, if_pos (by rw [← Lib.size_eq]; exact h)])
    go_enter Try.func35, Try.ntmps35
    go_wp2_with fail
    go_ret2
    rw [H.out]
    exact ⟨_, rfl, Own.nil _ _ _, Bel.refl _⟩
  · have H := Lib.hid (show M.dec16 big s.data.toList = (M.all16 big s.data.toList, 0) by rw [M.dec16, if_neg (by rw [← Lib.size_eq]; exact h)])
    go_enter Try.func35, Try.ntmps35
    go_wp2_with (go_at_call 70; refine (all16_any _ _ (by omega) _).mono ?_; rintro e w' ⟨v, rfl, hown, hb⟩)
    go_ret2
    rw [H.out]
    exact ⟨_, rfl, by assumption, by assumption⟩
theorem u8_div (n : Nat) (h : n < 65536) : byteVal (UInt8.ofNat (n / 256)) = .int .u8 ((n : Int) / 256) ∧ byteVal (UInt8.ofNat (n % 256)) = .int .u8 ((n : Int) % 256) := by
  simp [byteVal]; omega
/-- One unit of two bytes, put behind what the closure holds. -/
theorem put16_any (big : Bool) (n : Nat) (hn : n < 65536) (gb gs B : Nat) (v : Value) (xs : List UInt8) (w : World) (h1 : Box w gb 4 [.bool big]) (h2 : Box w gs 43 [v]) (hown : Own B 5 w v (xs.map byteVal)) (hB : gs < B) (hBw : B ≤ w.heap.size) (hl : xs.length < 1000000) :
    Calls Try.prog 72 #[.int .i64 (n : Int), .pointer (some ⟨gb, 0, none⟩), .pointer (some ⟨gs, 0, none⟩)] w fun e w' => e = .returned (.tuple #[]) ∧ ∃ v', Box w' gs 43 [v'] ∧ Own B 5 w' v' ((xs ++ M.put16 big n).map byteVal) ∧ Below gs w w' := by
  have c1 := h1.cell 0 _ rfl
  have c2 := h2.cell 0 _ rfl
  obtain ⟨q1, q2⟩ := u8_div n hn
  cases big
  · have HR := Lib.hid (show (M.put16 false n).map byteVal = [.int .u8 ((n : Int) % 256), .int .u8 ((n : Int) / 256)] by simp [M.put16, q1, q2])
    clear q1 q2
    go_enter Try.func72, Try.ntmps72
    go_wp2_with (first | ((at_builtin; refine wpList_apps (.tmp 13) (.tmp 19) 43 rfl elemByte (by decide) B _ _ _ hown (by simp [Value.oneCell']) (by simp; omega) (by first | exact Nat.le_refl _ | assumption | (have := hb.size; omega)) rfl rfl rfl ?_; intro v' w1 hown' hb1); have h3 := h2.upto hb1 hB; have d1 := h3.cell 0 _ rfl; have d2 := h3.frozen 0; obtain ⟨A', c', hv', _⟩ := hown'.form; simp at hv'; subst hv'))
    go_end0
    refine ⟨rfl, _, h3.set0, ?_, ?_⟩
    · rw [List.map_append, HR.out]; exact hown'.setCell (p := ⟨gs, 0, none⟩) hB _
    · exact Below.setCell (Below.mono hb1 (by omega)) (by simp) _
  · have HR := Lib.hid (show (M.put16 true n).map byteVal = [.int .u8 ((n : Int) / 256), .int .u8 ((n : Int) % 256)] by simp [M.put16, q1, q2])
    clear q1 q2
    go_enter Try.func72, Try.ntmps72
    go_wp2_with (first | ((at_builtin; refine wpList_apps (.tmp 5) (.tmp 11) 43 rfl elemByte (by decide) B _ _ _ hown (by simp [Value.oneCell']) (by simp; omega) (by first | exact Nat.le_refl _ | assumption | (have := hb.size; omega)) rfl rfl rfl ?_; intro v' w1 hown' hb1); have h3 := h2.upto hb1 hB; have d1 := h3.cell 0 _ rfl; have d2 := h3.frozen 0; obtain ⟨A', c', hv', _⟩ := hown'.form; simp at hv'; subst hv'))
    go_end0
    refine ⟨rfl, _, h3.set0, ?_, ?_⟩
    · rw [List.map_append, HR.out]; exact hown'.setCell (p := ⟨gs, 0, none⟩) hB _
    · exact Below.setCell (Below.mono hb1 (by omega)) (by simp) _
theorem row16_split (big : Bool) (m : Nat) (h : 65536 ≤ m) : M.row16 big (m : Int) = M.put16 big (55296 + (m - 65536) / 1024) ++ M.put16 big (56320 + (m - 65536) % 1024) := by
  rw [M.row16, if_neg (by omega), Int.toNat_natCast]
theorem row16_one (big : Bool) (m : Nat) (h : m < 65536) : M.row16 big (m : Int) = M.put16 big m := by
  rw [M.row16, if_pos (by omega), Int.toNat_natCast]
theorem bytes16_len (big : Bool) (l : List Int) : (M.bytes16 big l).length ≤ 4 * l.length := by
  induction l with
  | nil => simp [M.bytes16]
  | cons n l ih =>
    have h1 := M.row16_len big n
    have e : M.bytes16 big (n :: l) = M.row16 big n ++ M.bytes16 big l := rfl
    rw [e, List.length_append, List.length_cons]; omega
set_option maxHeartbeats 4000000 in
theorem enc16_any (big : Bool) (v : Value) (xs : List Int) (w : World) (hv : IntSl w v xs) : Calls Try.prog 36 #[.bool big, v] w fun e w' => e = .returned (.tuple #[.string ⟨(M.enc16 big xs).1.toArray⟩, .int .i64 (M.enc16 big xs).2]) ∧ Bel w w' := by
  obtain ⟨p, hp⟩ : ∃ p, M.points xs = p := ⟨_, rfl⟩
  have hv1 := hv.bel ((Bel.refl w).alloc (.cells #[.bool big] 4))
  have c1 := Lib.hid (points_any v xs _ hv1)
  rw [hp] at c1
  have hv0 := hv
  obtain ⟨a, c, rfl, hc1, hc2, hn, hx⟩ := hv0
  unfold maxLen at hc2
  by_cases h : p = 0
  · subst h
    obtain ⟨h1, h2⟩ := points_scalars xs hp
    have hsc : ∀ n ∈ xs, 0 ≤ n ∧ n ≤ 1114111 := fun n hn => ⟨(scalar_bounds n (h2 n hn)).1, (scalar_bounds n (h2 n hn)).2.1⟩
    have H := Lib.hid (show M.enc16 big xs = (M.bytes16 big xs, 0) by rw [M.enc16, if_pos hp])
    clear hp h2
    go_enter Try.func36, Try.ntmps36
    go_wp2_with (first | (go_at_call 71; refine (c1.out).mono ?_; rintro e w' ⟨rfl, rfl⟩))
    go_loopw [19] (fun i wr => ∃ (k : Nat) (v : Value), k ≤ xs.length ∧ i = .int .i64 k ∧ Box wr w.heap.size 4 [.bool big] ∧ Box wr (w.heap.size + 1) 43 [v] ∧ Own (w.heap.size + 2) 5 wr v ((M.bytes16 big (xs.take k)).map byteVal) ∧ Below w.heap.size w wr) (fun i _ => xs.length - (intOf i).toNat)
    case atStart =>
      exact ⟨0, _, by omega, rfl, (Box.new w 4 [.bool big]).bel ((Bel.refl _).alloc _), (by have := Box.new (w.alloc (.cells #[.bool big] 4)) 43 [.slice none 0 0]; simpa using this), Own.nil _ _ _, (by repeat (first | exact Bel.refl _ | refine Bel.drewN ?_ _ | refine Bel.drew ?_ | refine Bel.alloc ?_ _ | refine Bel.trans ?_ (by assumption) | refine Bel.setCell ?_ (by simp; omega) _))⟩
    case round =>
      obtain ⟨k, v, hk, rfl, hB1, hB2, hown, hb⟩ := hrel
      by_cases hlt : k < xs.length
      · obtain ⟨n, hy⟩ : ∃ n, xs[k]? = some n := ⟨_, List.getElem?_eq_getElem hlt⟩
        cases a with
        | none => exfalso; have h3 := hlt; rw [hn rfl, List.length_nil] at h3; omega
        | some x =>
          have hcw := hx x rfl k n hy
          have hcell : wr.cell? (x.add k) = some (.int .i64 n) := (Bel.cell hb (World.block_lt_of_cell? w _ hcw)).trans hcw
          obtain ⟨hn0, hn1⟩ := hsc n (List.mem_of_getElem? hy)
          have HT := Lib.hid (show M.bytes16 big (xs.take (k + 1)) = M.bytes16 big (xs.take k) ++ M.row16 big n by
            rw [List.take_add_one, hy]; simp [M.bytes16])
          obtain ⟨m, rfl⟩ := Int.eq_ofNat_of_zero_le hn0
          have hbl : (M.bytes16 big (xs.take k)).length ≤ 12000 := by
            have hbl := bytes16_len big (xs.take k)
            have hbl2 : (xs.take k).length ≤ k := List.length_take_le _ _
            omega
          have HBL := Lib.hid (show (M.bytes16 big (xs.take k)).length < 1000000 by omega)
          have hsz : w.heap.size + 2 ≤ wr.heap.size := hB2.lt
          have i1 : (k : Int) < (xs.length : Int) := by omega
          clear hx hn hy hcw hsc
          by_cases hm : m < 65536
          · clear hbl
            have HR := Lib.hid (row16_one big m hm)
            go_wp2_with (go_at_call 72; refine (put16_any big m hm w.heap.size (w.heap.size + 1) (w.heap.size + 2) v _ wr hB1 hB2 hown (by omega) hsz HBL.out).mono ?_; rintro e w1 ⟨rfl, v1, hB3, hown1, hb1⟩)
            go_roundw
            case rel => exact ⟨k + 1, v1, by omega, by go_num, hB1.upto hb1 (by omega), hB3, by rw [HT.out, HR.out]; exact hown1, Bel.upto hb hb1 (by omega)⟩
            case measure => simp [intOf]; omega
          · have HR := Lib.hid (row16_split big m (by omega))
            obtain ⟨q, hq, hq1⟩ : ∃ q : Nat, q = 55296 + (m - 65536) / 1024 ∧ q < 65536 := ⟨_, rfl, by omega⟩
            obtain ⟨r, hr, hr1⟩ : ∃ r : Nat, r = 56320 + (m - 65536) % 1024 ∧ r < 65536 := ⟨_, rfl, by omega⟩
            rw [← hq, ← hr] at HR
            have Q1 := Lib.hid (show (55296 : Int) + ((m : Int) - 65536) / 1024 = (q : Int) by omega)
            have R1 := Lib.hid (show (56320 : Int) + ((m : Int) - 65536) % 1024 = (r : Int) by omega)
            have a1 := and_1023 ((m : Int) - 65536) (by omega) (by omega)
            have hm2 : 65536 ≤ m := by omega
            have hm3 : m ≤ 1114111 := by omega
            clear hq hr hm
            have hl2 : (M.put16 big q).length = 2 := by unfold M.put16; split <;> rfl
            have hl3 : (M.bytes16 big (xs.take k) ++ M.put16 big q).length < 1000000 := by rw [List.length_append, hl2]; omega
            have HL3 := Lib.hid hl3
            clear hl2 hl3 hbl
            go_wp2_with (go_at_call 72; first | (rw [Q1.out]; refine (put16_any big q hq1 w.heap.size (w.heap.size + 1) (w.heap.size + 2) v _ wr hB1 hB2 hown (by omega) hsz HBL.out).mono ?_; rintro e w1 ⟨rfl, v1, hB3, hown1, hb1⟩; have hsz1 : w.heap.size + 2 ≤ w1.heap.size := hB3.lt; have hB5 := hB1.upto hb1 (by omega)) | (rw [R1.out]; refine (put16_any big r hr1 w.heap.size (w.heap.size + 1) (w.heap.size + 2) v1 _ w1 hB5 hB3 hown1 (by omega) hsz1 HL3.out).mono ?_; rintro e w2 ⟨rfl, v2, hB4, hown2, hb2⟩))
            go_roundw
            case rel => exact ⟨k + 1, v2, by omega, by go_num, (hB1.upto hb1 (by omega)).upto hb2 (by omega), hB4, by rw [HT.out, HR.out, ← List.append_assoc]; exact hown2, Bel.upto (Bel.upto hb hb1 (by omega)) hb2 (by omega)⟩
            case measure => simp [intOf]; omega
      · obtain rfl : k = xs.length := by omega
        have HT := Lib.hid (show xs.take xs.length = xs from List.take_length)
        rw [HT.out] at hown
        have c2 := hB2.cell 0 _ rfl
        go_wp2_with (first | ((with_reducible show wpList _ _ _ _ _ _); refine wpList_toString rfl (.tmp 41) _ _ 5 rfl Try.underlying43 Try.underlying5 Try.underlying9 (w.heap.size + 2) _ (M.bytes16 big xs) rfl hown ?_))
        go_ret2
        rw [H.out]
        exact ⟨rfl, hb⟩
  · have H := Lib.hid (show M.enc16 big xs = ([], p) by rw [M.enc16, if_neg (by rw [hp]; exact h), hp])
    have e1 : (p != 0) = true := by simpa using h
    clear hp h hx hn
    go_enter Try.func36, Try.ntmps36
    go_wp2_with (first | (go_at_call 71; refine (c1.out).mono ?_; rintro e w' ⟨rfl, rfl⟩))
    go_ret2
    rw [H.out]
    exact ⟨rfl, (Bel.refl _).alloc _⟩
end Go.Proofs.Ytmekemlhhjnjjaa

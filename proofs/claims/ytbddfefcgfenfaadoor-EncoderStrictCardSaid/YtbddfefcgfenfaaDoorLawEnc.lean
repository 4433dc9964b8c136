/-
  The laws on encoders: encoderBegun, EncoderTells.
-/
import Derived.Test.YtbddfefcgfenfaaDoorEnc2
import Derived.Test.YtbddfefcgfenfaaDoorREnc
namespace Go.Proofs.YtbddfefcgfenfaaDoor
open Go.RowKit
set_option maxRecDepth 1000000

theorem itoa_12354 : Lib.itoa 12354 = [49, 50, 51, 53, 52] := by
  show Lib.decDigits 12354 = _
  rw [Lib.decDigits, dif_neg (by decide), Lib.decDigits, dif_neg (by decide), Lib.decDigits, dif_neg (by decide), Lib.decDigits, dif_neg (by decide), Lib.decDigits, dif_pos (by decide)]
  decide +kernel
theorem told_begun : M.encE 4 1 [8364, 12354] = ([128, 38, 35, 49, 50, 51, 53, 52, 59], 0) := by
  have h1 : M.hasE 4 8364 = true := by decide +kernel
  have h2 : M.hasE 4 12354 = false := by decide +kernel
  have hT : M.toldE (M.outE 4) [8364, 12354] = [8364, 38, 35, 49, 50, 51, 53, 52, 59] := by
    rw [show M.outE 4 = 4 from rfl]
    unfold M.toldE
    simp only [List.flatMap_cons, List.flatMap_nil, h1, h2, M.numE, itoa_12354]
    rfl
  rw [M.encE, if_neg (by decide), if_neg (by decide), if_neg (by decide), if_pos rfl, hT]
  decide +kernel
theorem encoderBegun_any (w : World) (htab : Tab w) : Calls Tryd.prog 32 #[] w fun e w' => e = .returned (.bool true) ∧ Bel w w' := by
  have h1 := output_to 3 1 0 (by decide)
  have h2 := has_to 4 8364 true 0 (by decide +kernel)
  have h3 := has_to 6 8364 false 0 (by decide +kernel)
  have h5 : M.encE 4 0 [12354] = ([], 5) := by decide +kernel
  have H1 := Lib.hid h1
  have H2 := Lib.hid h2
  have H3 := Lib.hid h3
  have H5 := Lib.hid h5
  clear h1 h2 h3 h5
  go_enter Tryd.func32, Tryd.ntmps32
  go_wp2_with fail
  refine (H1.out _).mono ?_
  rintro e w1 ⟨rfl, rfl⟩
  go_wp2_with fail
  refine (H2.out _).mono ?_
  rintro e w2 ⟨rfl, b2⟩
  go_wp2_with fail
  refine (H3.out _).mono ?_
  rintro e w3 ⟨rfl, b3⟩
  go_wp2_with fail
  have bA := b2.trans b3
  have i4 := IntSl.lit w3 3 [8364, 12354] (by decide)
  refine (enc_to 4 1 _ [8364, 12354] _ i4 (htab.bel (bA.alloc _)) _ _ told_begun).mono ?_
  rintro e w4 ⟨rfl, b4⟩
  have bB := (bA.alloc (.cells #[.int .i64 8364, .int .i64 12354] 3)).trans b4
  go_wp2_with fail
  have i5 := IntSl.lit w4 3 [12354] (by decide)
  refine (enc_to 4 0 _ [12354] _ i5 (htab.bel (bB.alloc _)) _ _ H5.out).mono ?_
  rintro e w5 ⟨rfl, b5⟩
  have bC := (bB.alloc (.cells #[.int .i64 12354] 3)).trans b5
  go_wp2_with fail
  go_ret
  exact ⟨rfl, bC⟩
set_option maxHeartbeats 4000000 in
theorem encoderTellsTrue (e mode p : Int) (v : Value) (xs : List Int) (w : World) (_ : -9223372036854775808 ≤ e ∧ e ≤ 9223372036854775807) (_ : -9223372036854775808 ≤ mode ∧ mode ≤ 9223372036854775807) (_ : -9223372036854775808 ≤ p ∧ p ≤ 9223372036854775807) (hv : IntSl w v xs) (_ : xs.length * 8 ≤ reachBytes) (_ : ∀ n ∈ xs, -9223372036854775808 ≤ n ∧ n ≤ 9223372036854775807) (htab : Tab w) :
    Calls Tryd.prog 5 #[.int .i64 e, .int .i64 mode, .int .i64 p, v] w fun r w' => r = .returned (.bool true) ∧ Bel w w' := by
  obtain ⟨l, k, hE⟩ : ∃ l k, M.encE e mode xs = (l, k) := ⟨_, _, rfl⟩
  have HE := Lib.hid hE
  clear hE
  cases hi : M.isEnc e with
  | false =>
    have HO := Lib.hid (show M.outputE e = (0, 6) by rw [M.outputE, hi, if_neg (by decide)])
    have HH := Lib.hid (show M.hasEE e p = (false, 6) by rw [M.hasEE, hi, if_pos rfl])
    have HI := Lib.hid hi
    have HS := HI
    clear hi
    go_enter Tryd.func5, Tryd.ntmps5
    go_wp2_with fail
    refine (output_to e _ _ HO.out _).mono ?_
    rintro r w1 ⟨rfl, rfl⟩
    go_wp2_with fail
    refine (has_to e p _ _ HH.out _).mono ?_
    rintro r w2 ⟨rfl, b2⟩
    go_wp2_with fail
    refine (enc_to e mode v xs _ (hv.bel b2) (htab.bel b2) _ _ HE.out).mono ?_
    rintro r w3 ⟨rfl, b3⟩
    have bA := b2.trans b3
    have hvA := hv.bel bA
    have htA := htab.bel bA
    clear b2 b3
    go_wp2_with (first | (go_at_call 23; refine (isEncoding_any _ _).mono ?_; rintro e w' ⟨rfl, rfl⟩; rw [HI.out]) | (go_at_call 29; refine (outputOf_any _ _).mono ?_; rintro e w' ⟨rfl, rfl⟩) | (go_at_call 30; refine (isScalar_any _ _).mono ?_; rintro e w' ⟨rfl, rfl⟩; rw [HS.out]) | (go_at_call 31; refine (encodeOf_to e mode v xs _ hvA _ _ HE.out).mono ?_; rintro r w4 ⟨rfl, b4⟩) | (go_at_call 32; refine (encoderBegun_any _ (htA.bel b4)).mono ?_; rintro r w5 ⟨rfl, b5⟩) | (go_at_call 33; refine (hasOf_any _ _ _).mono ?_; rintro e w' ⟨rfl, b6⟩))
    go_ret
    exact ⟨rfl, (by repeat (first | exact Bel.refl _ | refine Bel.drewN ?_ _ | refine Bel.drew ?_ | refine Bel.alloc ?_ _ | refine Bel.trans ?_ (by assumption) | refine Bel.setCell ?_ (by simp; omega) _))⟩
  | true =>
    have HO := Lib.hid (show M.outputE e = (M.outE e, 0) by rw [M.outputE, hi, if_pos rfl])
    cases hs : M.scalar p with
    | false =>
      have HH := Lib.hid (show M.hasEE e p = (false, 3) by rw [M.hasEE, hi, hs, if_neg (by decide), if_pos rfl])
      have HI := Lib.hid hi
      have HS := Lib.hid hs
      clear hi hs
      go_enter Tryd.func5, Tryd.ntmps5
      go_wp2_with fail
      refine (output_to e _ _ HO.out _).mono ?_
      rintro r w1 ⟨rfl, rfl⟩
      go_wp2_with fail
      refine (has_to e p _ _ HH.out _).mono ?_
      rintro r w2 ⟨rfl, b2⟩
      go_wp2_with fail
      refine (enc_to e mode v xs _ (hv.bel b2) (htab.bel b2) _ _ HE.out).mono ?_
      rintro r w3 ⟨rfl, b3⟩
      have bA := b2.trans b3
      have hvA := hv.bel bA
      have htA := htab.bel bA
      clear b2 b3
      go_wp2_with (first | (go_at_call 23; refine (isEncoding_any _ _).mono ?_; rintro e w' ⟨rfl, rfl⟩; rw [HI.out]) | (go_at_call 29; refine (outputOf_any _ _).mono ?_; rintro e w' ⟨rfl, rfl⟩) | (go_at_call 30; refine (isScalar_any _ _).mono ?_; rintro e w' ⟨rfl, rfl⟩; rw [HS.out]) | (go_at_call 31; refine (encodeOf_to e mode v xs _ hvA _ _ HE.out).mono ?_; rintro r w4 ⟨rfl, b4⟩) | (go_at_call 32; refine (encoderBegun_any _ (htA.bel b4)).mono ?_; rintro r w5 ⟨rfl, b5⟩) | (go_at_call 33; refine (hasOf_any _ _ _).mono ?_; rintro e w' ⟨rfl, b6⟩))
      go_ret
      exact ⟨rfl, (by repeat (first | exact Bel.refl _ | refine Bel.drewN ?_ _ | refine Bel.drew ?_ | refine Bel.alloc ?_ _ | refine Bel.trans ?_ (by assumption) | refine Bel.setCell ?_ (by simp; omega) _))⟩
    | true =>
      have HH := Lib.hid (show M.hasEE e p = (M.hasE e p, 0) by rw [M.hasEE, hi, hs, if_neg (by decide), if_neg (by decide), M.hasE_out e p hi])
      have HI := Lib.hid hi
      have HS := Lib.hid hs
      clear hi hs
      go_enter Tryd.func5, Tryd.ntmps5
      go_wp2_with fail
      refine (output_to e _ _ HO.out _).mono ?_
      rintro r w1 ⟨rfl, rfl⟩
      go_wp2_with fail
      refine (has_to e p _ _ HH.out _).mono ?_
      rintro r w2 ⟨rfl, b2⟩
      go_wp2_with fail
      refine (enc_to e mode v xs _ (hv.bel b2) (htab.bel b2) _ _ HE.out).mono ?_
      rintro r w3 ⟨rfl, b3⟩
      have bA := b2.trans b3
      have hvA := hv.bel bA
      have htA := htab.bel bA
      clear b2 b3
      go_wp2_with (first | (go_at_call 23; refine (isEncoding_any _ _).mono ?_; rintro e w' ⟨rfl, rfl⟩; rw [HI.out]) | (go_at_call 29; refine (outputOf_any _ _).mono ?_; rintro e w' ⟨rfl, rfl⟩) | (go_at_call 30; refine (isScalar_any _ _).mono ?_; rintro e w' ⟨rfl, rfl⟩; rw [HS.out]) | (go_at_call 31; refine (encodeOf_to e mode v xs _ hvA _ _ HE.out).mono ?_; rintro r w4 ⟨rfl, b4⟩) | (go_at_call 32; refine (encoderBegun_any _ (htA.bel b4)).mono ?_; rintro r w5 ⟨rfl, b5⟩) | (go_at_call 33; refine (hasOf_any _ _ _).mono ?_; rintro e w' ⟨rfl, b6⟩))
      go_ret
      exact ⟨rfl, (by repeat (first | exact Bel.refl _ | refine Bel.drewN ?_ _ | refine Bel.drew ?_ | refine Bel.alloc ?_ _ | refine Bel.trans ?_ (by assumption) | refine Bel.setCell ?_ (by simp; omega) _))⟩
end Go.Proofs.YtbddfefcgfenfaaDoor

/-
  The laws on labels: labelBegun, LabelTells.
-/
import Derived.Test.YthaoohckgilahaaDoorLabel3
import Derived.Test.YthaoohckgilahaaDoorRLabel
namespace Go.Proofs.YthaoohckgilahaaDoor
open Go.RowKit
set_option maxRecDepth 1000000

theorem labelBegun_any (w : World) : Calls Tryd.prog 22 #[] w fun e w' => e = .returned (.bool true) ∧ Bel w w' := by
  have h1 := trim_to ⟨#[9, 32, 97, 32, 98, 32, 10]⟩ [97, 32, 98] 0 (by decide +kernel) (by decide)
  have h2 := fold_to ⟨#[65, 196, 122]⟩ [97, 196, 122] 0 (by decide +kernel) (by decide)
  have h3 := find_to ⟨#[32, 76, 97, 116, 105, 110, 49, 13]⟩ 4 0 (by decide +kernel) (by decide)
  have h4 := name_to 3 [117, 116, 102, 45, 49, 54, 98, 101] 0 (by decide +kernel)
  have h5 := name_to 0 [] 6 (by decide +kernel)
  go_enter Tryd.func22, Tryd.ntmps22
  go_wp2_with fail
  refine (h1 _).mono ?_
  rintro e w1 ⟨rfl, b1⟩
  go_wp2_with fail
  refine (h2 _).mono ?_
  rintro e w2 ⟨rfl, b2⟩
  go_wp2_with fail
  refine (h3 _).mono ?_
  rintro e w3 ⟨rfl, b3⟩
  go_wp2_with fail
  refine (h4 _).mono ?_
  rintro e w4 ⟨rfl, b4⟩
  go_wp2_with fail
  refine (h5 _).mono ?_
  rintro e w5 ⟨rfl, b5⟩
  go_wp2_with fail
  go_ret
  exact ⟨rfl, (((b1.trans b2).trans b3).trans b4).trans b5⟩
end Go.Proofs.YthaoohckgilahaaDoor

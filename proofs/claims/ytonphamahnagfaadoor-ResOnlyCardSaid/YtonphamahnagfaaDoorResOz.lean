/-
  catchboltlaw02.ResOnly: unlike resources have unlike texts, and those of one table, and they alone, have texts that begin alike up to the dot. The condition: the listed variables read as the program's text lays them.
-/
import Derived.Test.YtonphamahnagfaaDoorResOa
import Derived.Test.YtonphamahnagfaaDoorResOb
import Derived.Test.YtonphamahnagfaaDoorResOc
import Derived.Test.YtonphamahnagfaaDoorResOd
namespace Go.Proofs.YtonphamahnagfaaDoor
open Go.ChangeShapes Go.WideShapes Go.ChangeAt Go.RowKit
set_option linter.unusedVariables false

theorem only_true (a0 a1 b0 b1 : Int) (w : World) (hE : ErrT w) (hTW : TabW w) (ha0 : 0 ≤ a0 ∧ a0 < 256) (ha1 : 0 ≤ a1 ∧ a1 < 256) (hb0 : 0 ≤ b0 ∧ b0 < 256) (hb1 : 0 ≤ b1 ∧ b1 < 256) :
    Calls Tryd.prog 4 #[.agg #[.int .u8 a0, .int .u8 a1], .agg #[.int .u8 b0, .int .u8 b1]] w fun e w' => e = .returned (.bool true) ∧ Below w.heap.size w w' := by
  obtain ⟨T, hT⟩ := Int.eq_ofNat_of_zero_le (show 0 ≤ 1 + a0 % 250 by omega)
  obtain ⟨R, hR⟩ := Int.eq_ofNat_of_zero_le (show 0 ≤ a1 % 251 by omega)
  obtain ⟨S, hS⟩ := Int.eq_ofNat_of_zero_le (show 0 ≤ 1 + b0 % 250 by omega)
  obtain ⟨Q, hQ⟩ := Int.eq_ofNat_of_zero_le (show 0 ≤ b1 % 251 by omega)
  by_cases h1 : T = S
  · by_cases h2 : Q = 0
    · by_cases h3 : R = 0
      · exact only_1 a0 a1 b0 b1 T R S Q w hE hTW ha0 ha1 hb0 hb1 hT hR hS hQ h1 h2 h3
      · exact only_2 a0 a1 b0 b1 T R S Q w hE hTW ha0 ha1 hb0 hb1 hT hR hS hQ h1 h2 h3
    · by_cases h3 : R = Q
      · exact only_3 a0 a1 b0 b1 T R S Q w hE hTW ha0 ha1 hb0 hb1 hT hR hS hQ h1 h2 h3
      · exact only_4 a0 a1 b0 b1 T R S Q w hE hTW ha0 ha1 hb0 hb1 hT hR hS hQ h1 h2 h3
  · by_cases h2 : (textB T 0).size < (textB S Q).size
    · cases h3 : (((textB S Q).extract 0 (textB T 0).size).toList == (textB T 0).toList) with
      | true => exact only_5 a0 a1 b0 b1 T R S Q w hE hTW ha0 ha1 hb0 hb1 hT hR hS hQ h1 h2 h3
      | false => exact only_6 a0 a1 b0 b1 T R S Q w hE hTW ha0 ha1 hb0 hb1 hT hR hS hQ h1 h2 h3
    · exact only_7 a0 a1 b0 b1 T R S Q w hE hTW ha0 ha1 hb0 hb1 hT hR hS hQ h1 h2 trivial
end Go.Proofs.YtonphamahnagfaaDoor

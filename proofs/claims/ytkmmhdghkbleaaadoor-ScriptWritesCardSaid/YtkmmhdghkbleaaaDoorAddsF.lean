/-
  Bytes of whole entries and others behind them, in plain terms.
-/
import Derived.Test.YtkmmhdghkbleaaaDoorParseF
namespace Go.Proofs.YtkmmhdghkbleaaaDoor
set_option linter.unusedVariables false

theorem getD_app_left (a b : List Int) (i : Nat) (h : i < a.length) : (a ++ b).getD i 0 = a.getD i 0 := by
  rw [List.getD_eq_getElem?_getD, List.getD_eq_getElem?_getD, List.getElem?_append_left h]
theorem getD_app_right (a b : List Int) (i : Nat) (h : a.length ≤ i) : (a ++ b).getD i 0 = b.getD (i - a.length) 0 := by
  rw [List.getD_eq_getElem?_getD, List.getD_eq_getElem?_getD, List.getElem?_append_right h]

theorem entAt_left (a b : List Int) (k : Nat) (h : 5 * k + 5 ≤ a.length) : entAt (a ++ b) k = entAt a k := by
  unfold entAt
  rw [getD_app_left _ _ _ (by omega), getD_app_left _ _ _ (by omega), getD_app_left _ _ _ (by omega), getD_app_left _ _ _ (by omega), getD_app_left _ _ _ (by omega)]
theorem entAt_right (a b : List Int) (q k : Nat) (h : a.length = 5 * q) : entAt (a ++ b) (q + k) = entAt b k := by
  unfold entAt
  rw [getD_app_right _ _ _ (by omega), getD_app_right _ _ _ (by omega), getD_app_right _ _ _ (by omega), getD_app_right _ _ _ (by omega), getD_app_right _ _ _ (by omega)]
  rw [show 5 * (q + k) - a.length = 5 * k from by omega, show 5 * (q + k) + 1 - a.length = 5 * k + 1 from by omega, show 5 * (q + k) + 2 - a.length = 5 * k + 2 from by omega,
    show 5 * (q + k) + 3 - a.length = 5 * k + 3 from by omega, show 5 * (q + k) + 4 - a.length = 5 * k + 4 from by omega]

/-- bytes of whole entries, and others behind them -/
theorem parsed_append (a b : List Int) (h : a.length % 5 = 0) : parsed (a ++ b) = parsed a ++ parsed b := by
  obtain ⟨q, hq⟩ : ∃ q, a.length = 5 * q := ⟨a.length / 5, by omega⟩
  unfold parsed
  rw [if_pos h, List.append_nil, List.length_append, show (a.length + b.length) / 5 = q + b.length / 5 from by omega, show (a.length + b.length) % 5 = b.length % 5 from by omega, show a.length / 5 = q from by omega, ← List.append_assoc]
  congr 1
  unfold upto
  rw [List.range_add, List.map_append, List.map_map]
  congr 1
  · exact List.map_congr_left fun k hk => entAt_left a b k (by have := List.mem_range.1 hk; omega)
  · exact List.map_congr_left fun k _ => entAt_right a b q k hq
end Go.Proofs.YtkmmhdghkbleaaaDoor

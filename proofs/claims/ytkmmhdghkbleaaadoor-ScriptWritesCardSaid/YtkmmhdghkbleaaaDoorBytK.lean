/-
  A cell that lies below stays. No conditions.
-/
import Derived.Test.YtkmmhdghkbleaaaDoorBackAD
namespace Go.Proofs.YtkmmhdghkbleaaaDoor
open Go.ChangeShapes Go.WideShapes Go.ChangeAt Go.RowKit

theorem cell_keep {w2 W : World} {u : Value} {b o : Nat} (hb : Below w2.heap.size w2 W) (hc : w2.cell? ⟨b, o, none⟩ = some u) : W.cell? ⟨b, o, none⟩ = some u :=
  (hb.cell (p := ⟨b, o, none⟩) (lt_of_cell hc)).trans hc
end Go.Proofs.YtkmmhdghkbleaaaDoor

/-
  What the listed variable errors.errorType gives a walk: its cell. The condition: the variable reads as the program's text lays it.
-/
import Derived.Test.YtonphamahnagfaaDoorRows
import Derived.Test.YtonphamahnagfaaDoorAs
import Derived.LaidLaws
import Derived.LaidHandle
import Derived.RowKit
namespace Go.Proofs.YtonphamahnagfaaDoor
open Go.ChangeShapes Go.WideShapes Go.RowKit

theorem Tryd.et : Tryd.prog.globalNamed "errors.errorType" = some 0 := by kernel_rfl
theorem Tryd.rt : (Tryd.prog.cutTypes.find? (·.1 == "internal/reflectlite.rtype")).map (·.2) = some 87 := by kernel_rfl
theorem Tryd.oneRow : ((List.range Tryd.prog.types.size).filter fun t => Tryd.prog.rowNamed t [101, 114, 114, 111, 114]) = [26] := by kernel_rfl

/-- what the walks ask of a world -/
def LaidW (w : World) : Prop := ErrT w

theorem laidW_of {W : World} (h : laidMetH Tryd.prog [("errors.errorType", Rows.laid_errors_errorType)] W) : LaidW W := by
  have h' : laidMet Tryd.prog [] W ∧ handlesMet Tryd.prog [("errors.errorType", Rows.laid_errors_errorType)] W := h
  obtain ⟨name, u, ty, e1, e2, e3, e4, e5⟩ := h'.2 _ (List.mem_singleton.2 rfl)
  have en : name = [101, 114, 114, 111, 114] := (Option.some.inj e1).symm
  subst en
  obtain rfl := Option.some.inj (Tryd.rt.symm.trans e2)
  have hm : ty ∈ (List.range Tryd.prog.types.size).filter fun t => Tryd.prog.rowNamed t [101, 114, 114, 111, 114] := List.mem_filter.2 ⟨List.mem_range.2 e3, e4⟩
  rw [Tryd.oneRow] at hm
  obtain rfl := List.mem_singleton.1 hm
  have hh : typeHandle Tryd.prog 26 = .pointer (some ⟨4, 26, none⟩) := by kernel_rfl
  rw [hh] at e5
  have hc := World.var?_cell Tryd.et e5 0
  unfold LaidW ErrT
  simpa using hc

/-- WORLD ({ World.holding Tryd.prog os ⟨#[], #[], []⟩ with heap := (World.holding Tryd.prog os ⟨#[], #[], []⟩).heap.modify 0 fun | .cells _ t frozen => .cells #[.iface 87 (.agg #[.pointer (some ⟨4, 26, none⟩)])] t frozen | o => o } : World) -/
theorem laid_own : ownKnob Tryd.prog.godebug = none := by kernel_rfl
end Go.Proofs.YtonphamahnagfaaDoor

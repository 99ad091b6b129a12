/-
  What the listed variables give a walk: the cell of errors.errorType, the table internal/strconv.uint64pow10. The condition: the variables read as the program's text lays them.
-/
import Derived.Test.YtonphamahnagfaaDoorRows
import Derived.Test.YtonphamahnagfaaDoorAs
import Derived.LaidLaws
import Derived.LaidHandle
import Derived.RowKit
import Derived.Lib.LaidTab
import Derived.Lib.ItoaNum
import Derived.Stop.LaidErr
namespace Go.Proofs.YtonphamahnagfaaDoor
open Go.ChangeShapes Go.WideShapes Go.RowKit

theorem Tryd.et : Tryd.prog.globalNamed "errors.errorType" = some 0 := by kernel_rfl
theorem Tryd.rt : (Tryd.prog.cutTypes.find? (·.1 == "internal/reflectlite.rtype")).map (·.2) = some 87 := by kernel_rfl
theorem Tryd.oneRow : ((List.range Tryd.prog.types.size).filter fun t => Tryd.prog.rowNamed t [101, 114, 114, 111, 114]) = [26] := by kernel_rfl
theorem Tryd.gTab : Tryd.prog.globalNamed "internal/strconv.uint64pow10" = some 1 := by kernel_rfl
theorem Tryd.gTabType : (Tryd.prog.globals[1]?).map (·.type) = some 125 := by kernel_rfl
theorem Tryd.cellsTab : Tryd.prog.cellsOf 125 = 20 := by kernel_rfl
theorem Tryd.cellsNum : Tryd.prog.cellsOf 108 = 1 := by kernel_rfl

/-- what the walks ask of a world -/
def TabW (w : World) : Prop := Lib.TabIs Tryd.prog w "internal/strconv.uint64pow10" .u64 Lib.pow10Tab
def LaidW (w : World) : Prop := ErrT w ∧ TabW w

theorem tab_of {W : World} (h : laidMet Tryd.prog [("internal/strconv.uint64pow10", Rows.laid_internal_strconv_uint64pow10)] W) : TabW W :=
  Lib.tabIs_of_head (zs := Lib.pow10Tab) (rest := []) Tryd.gTab Tryd.gTabType Tryd.underlying125 Tryd.underlying108 Tryd.cellsNum Tryd.cellsTab h

theorem laidW_of {W : World} (h : laidMetH Tryd.prog [("math/bits.deBruijn32tab", Rows.laid_math_bits_deBruijn32tab), ("math/bits.deBruijn64tab", Rows.laid_math_bits_deBruijn64tab), ("internal/strconv.uint64pow10", Rows.laid_internal_strconv_uint64pow10), ("errors.errorType", Rows.laid_errors_errorType)] W) : LaidW W := by
  have h' : laidMet Tryd.prog [("math/bits.deBruijn32tab", Rows.laid_math_bits_deBruijn32tab), ("math/bits.deBruijn64tab", Rows.laid_math_bits_deBruijn64tab), ("internal/strconv.uint64pow10", Rows.laid_internal_strconv_uint64pow10)] W ∧ handlesMet Tryd.prog [("errors.errorType", Rows.laid_errors_errorType)] W := h
  refine ⟨?_, ?_⟩
  · obtain ⟨name, u, ty, e1, e2, e3, e4, e5⟩ := h'.2 _ (List.mem_singleton.2 rfl)
    have en : name = [101, 114, 114, 111, 114] := (Option.some.inj e1).symm
    subst en
    obtain rfl := Option.some.inj (Tryd.rt.symm.trans e2)
    have hm : ty ∈ (List.range Tryd.prog.types.size).filter fun t => Tryd.prog.rowNamed t [101, 114, 114, 111, 114] := List.mem_filter.2 ⟨List.mem_range.2 e3, e4⟩
    rw [Tryd.oneRow] at hm
    obtain rfl := List.mem_singleton.1 hm
    have hh : typeHandle Tryd.prog 26 = .pointer (some ⟨4, 26, none⟩) := by kernel_rfl
    rw [hh] at e5
    have hc := World.var?_cell Tryd.et e5 0
    unfold ErrT
    simpa using hc
  · exact tab_of (laidMet.tail (laidMet.tail (h'.1)))

/-- WORLD ({ World.holding Tryd.prog os ⟨#[], #[], []⟩ with heap := (((((World.holding Tryd.prog os ⟨#[], #[], []⟩).heap.modify 2 fun | .cells _ t frozen => .cells #[.int .u8 0, .int .u8 1, .int .u8 28, .int .u8 2, .int .u8 29, .int .u8 14, .int .u8 24, .int .u8 3, .int .u8 30, .int .u8 22, .int .u8 20, .int .u8 15, .int .u8 25, .int .u8 17, .int .u8 4, .int .u8 8, .int .u8 31, .int .u8 27, .int .u8 13, .int .u8 23, .int .u8 21, .int .u8 19, .int .u8 16, .int .u8 7, .int .u8 26, .int .u8 12, .int .u8 18, .int .u8 6, .int .u8 11, .int .u8 5, .int .u8 10, .int .u8 9] t frozen | o => o).modify 3 fun | .cells _ t frozen => .cells #[.int .u8 0, .int .u8 1, .int .u8 56, .int .u8 2, .int .u8 57, .int .u8 49, .int .u8 28, .int .u8 3, .int .u8 61, .int .u8 58, .int .u8 42, .int .u8 50, .int .u8 38, .int .u8 29, .int .u8 17, .int .u8 4, .int .u8 62, .int .u8 47, .int .u8 59, .int .u8 36, .int .u8 45, .int .u8 43, .int .u8 51, .int .u8 22, .int .u8 53, .int .u8 39, .int .u8 33, .int .u8 30, .int .u8 24, .int .u8 18, .int .u8 12, .int .u8 5, .int .u8 63, .int .u8 55, .int .u8 48, .int .u8 27, .int .u8 60, .int .u8 41, .int .u8 37, .int .u8 16, .int .u8 46, .int .u8 35, .int .u8 44, .int .u8 21, .int .u8 52, .int .u8 32, .int .u8 23, .int .u8 11, .int .u8 54, .int .u8 26, .int .u8 40, .int .u8 15, .int .u8 34, .int .u8 20, .int .u8 31, .int .u8 10, .int .u8 25, .int .u8 14, .int .u8 19, .int .u8 9, .int .u8 13, .int .u8 8, .int .u8 7, .int .u8 6] t frozen | o => o).modify 1 fun | .cells _ t frozen => .cells #[.int .u64 1, .int .u64 10, .int .u64 100, .int .u64 1000, .int .u64 10000, .int .u64 100000, .int .u64 1000000, .int .u64 10000000, .int .u64 100000000, .int .u64 1000000000, .int .u64 10000000000, .int .u64 100000000000, .int .u64 1000000000000, .int .u64 10000000000000, .int .u64 100000000000000, .int .u64 1000000000000000, .int .u64 10000000000000000, .int .u64 100000000000000000, .int .u64 1000000000000000000, .int .u64 10000000000000000000] t frozen | o => o).modify 0 fun | .cells _ t frozen => .cells #[.iface 87 (.agg #[.pointer (some ⟨4, 26, none⟩)])] t frozen | o => o) } : World) -/
theorem laid_own : ownKnob Tryd.prog.godebug = none := by kernel_rfl
end Go.Proofs.YtonphamahnagfaaDoor

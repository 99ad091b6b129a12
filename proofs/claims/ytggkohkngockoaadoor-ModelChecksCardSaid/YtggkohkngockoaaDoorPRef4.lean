/-
  catchboltref20.Form: are an event's fields those of its kind? No conditions.
-/
import Derived.Test.YtggkohkngockoaaDoorPRef1
namespace Go.Proofs.YtggkohkngockoaaDoor
open Go.ChangeShapes Go.WideShapes Go.ChangeAt Go.RowKit Go.Maps
set_option linter.unusedVariables false
set_option linter.unusedSimpArgs false

set_option maxHeartbeats 1000000 in
theorem rok2_at (t r : Int) (w : World) (b : Bool) (h : resB t r = b) :
    Calls Tryd.prog 40 #[.agg #[.int .i64 t, .int .i64 r]] w fun e w' => e = .returned (.bool b) ∧ w.alloc (.cells #[.int .i64 t, .int .i64 r] 40) = w' := by
  subst h
  unfold resB
  go_enter Tryd.func40, Tryd.ntmps40
  by_cases h1 : 1 ≤ t
  · by_cases h2 : t ≤ 250
    · by_cases h3 : 0 ≤ r
      · by_cases h4 : r ≤ 250
        · go_wp2
          go_ret
          exact ⟨retb (by first | (simp [h1, h2, h3, h4]; done) | (simp [h1, h2, h3, h4]; omega) | omega), rfl⟩
        · go_wp2
          go_ret
          exact ⟨retb (by simp; omega), rfl⟩
      · go_wp2
        go_ret
        exact ⟨retb (by simp; omega), rfl⟩
    · go_wp2
      go_ret
      exact ⟨retb (by simp; omega), rfl⟩
  · go_wp2
    go_ret
    exact ⟨retb (by simp; omega), rfl⟩
end Go.Proofs.YtggkohkngockoaaDoor

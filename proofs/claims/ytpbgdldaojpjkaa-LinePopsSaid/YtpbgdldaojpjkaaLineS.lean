/-
  line.may, line.lot, line.New, and the document's May: small functions. No other conditions.
-/
import Derived.Test.YtpbgdldaojpjkaaAll
namespace Go.Proofs.Ytpbgdldaojpjkaa
open Go.ChangeShapes Go.WideShapes Go.ChangeAt Go.RowKit
set_option linter.unusedVariables false

set_option maxHeartbeats 4000000 in
theorem may_any (x s m : Int) (u : Bool) (w : World) :
    Calls Try.prog 28 #[.agg #[.int .i64 x, .int .i64 s, .int .i64 m, .bool u]] w fun e w' => e = .returned (.bool (⟨x, s, m, u⟩ : Wt).ok) ∧ Below w.heap.size w w' := by
  have hB : Below w.heap.size w (w.alloc (.cells #[.int .i64 x, .int .i64 s, .int .i64 m, .bool u] 33)) := (Below.refl _ _).alloc (Nat.le_refl _) _
  have HB := Lib.hid hB
  clear hB
  by_cases h1 : 1 ≤ x
  · by_cases h2 : x ≤ 1048576
    · by_cases h3 : 1 ≤ s
      · by_cases h4 : s ≤ 1048576
        · by_cases h5 : 1 ≤ m
          · go_enter Try.func28, Try.ntmps28
            go_wp2
            go_ret
            exact ⟨retb (by unfold Wt.ok; dsimp only; first | exact (decide_eq_false (by omega)).symm | exact decide_eq_decide.2 (by omega)), HB.out⟩
          · have h5' : ¬ 1 ≤ m := h5
            go_enter Try.func28, Try.ntmps28
            go_wp2
            go_ret
            exact ⟨retb (by unfold Wt.ok; dsimp only; first | exact (decide_eq_false (by omega)).symm | exact decide_eq_decide.2 (by omega)), HB.out⟩
        · go_enter Try.func28, Try.ntmps28
          go_wp2
          go_ret
          exact ⟨retb (by unfold Wt.ok; dsimp only; first | exact (decide_eq_false (by omega)).symm | exact decide_eq_decide.2 (by omega)), HB.out⟩
      · go_enter Try.func28, Try.ntmps28
        go_wp2
        go_ret
        exact ⟨retb (by unfold Wt.ok; dsimp only; first | exact (decide_eq_false (by omega)).symm | exact decide_eq_decide.2 (by omega)), HB.out⟩
    · go_enter Try.func28, Try.ntmps28
      go_wp2
      go_ret
      exact ⟨retb (by unfold Wt.ok; dsimp only; first | exact (decide_eq_false (by omega)).symm | exact decide_eq_decide.2 (by omega)), HB.out⟩
  · go_enter Try.func28, Try.ntmps28
    go_wp2
    go_ret
    exact ⟨retb (by unfold Wt.ok; dsimp only; first | exact (decide_eq_false (by omega)).symm | exact decide_eq_decide.2 (by omega)), HB.out⟩

theorem lot_any (x s m : Int) (u : Bool) (w : World) :
    Calls Try.prog 29 #[.agg #[.int .i64 x, .int .i64 s, .int .i64 m, .bool u]] w fun e w' => e = .returned (.int .i64 (if u then 0 else 1)) ∧ w.alloc (.cells #[.int .i64 x, .int .i64 s, .int .i64 m, .bool u] 33) = w' := by
  cases u
  all_goals
    go_enter Try.func29, Try.ntmps29
    go_wp2
    go_ret
    exact ⟨rfl, rfl⟩

/-- a new line: its limit, and nobody in it -/
theorem new_ok (lim : Int) (w : World) (h1 : 1 ≤ lim) (h2 : lim ≤ 64) :
    Calls Try.prog 8 #[.int .i64 lim] w fun e w' => e = .returned (.tuple #[.pointer (some ⟨w.heap.size, 0, none⟩), .nilIface]) ∧ w.alloc (.cells #[.int .i64 lim, .slice none 0 0, .slice none 0 0] 58) = w' := by
  have h1' : ¬ lim < 1 := by omega
  have h2' : ¬ 64 < lim := by omega
  clear h1 h2
  go_enter Try.func8, Try.ntmps8
  go_wp2
  go_returns
  exact ⟨rfl, rfl⟩

theorem new_no (lim : Int) (w : World) (h : lim < 1 ∨ 64 < lim) :
    Calls Try.prog 8 #[.int .i64 lim] w fun e w' => e = .returned (.tuple #[.pointer none, .iface 55 (.int .i64 2)]) ∧ w = w' := by
  by_cases h1 : lim < 1
  · clear h
    go_enter Try.func8, Try.ntmps8
    go_wp2
    go_returns
    exact ⟨rfl, rfl⟩
  · have h2 : 64 < lim := by omega
    clear h
    go_enter Try.func8, Try.ntmps8
    go_wp2
    go_returns
    exact ⟨rfl, rfl⟩

set_option maxHeartbeats 4000000 in
theorem rmay_any (x s m : Int) (u : Bool) (w : World) :
    Calls Try.prog 21 #[.agg #[.int .i64 x, .int .i64 s, .int .i64 m, .bool u]] w fun e w' => e = .returned (.bool (⟨x, s, m, u⟩ : Wt).ok) ∧ Below w.heap.size w w' := by
  have hB : Below w.heap.size w (w.alloc (.cells #[.int .i64 x, .int .i64 s, .int .i64 m, .bool u] 33)) := (Below.refl _ _).alloc (Nat.le_refl _) _
  have HB := Lib.hid hB
  clear hB
  by_cases h1 : 0 < x
  · by_cases h2 : x ≤ 1048576
    · by_cases h3 : 0 < s
      · by_cases h4 : s ≤ 1048576
        · by_cases h5 : 0 < m
          · go_enter Try.func21, Try.ntmps21
            go_wp2
            go_ret
            exact ⟨retb (by unfold Wt.ok; dsimp only; first | exact (decide_eq_false (by omega)).symm | exact decide_eq_decide.2 (by omega)), HB.out⟩
          · go_enter Try.func21, Try.ntmps21
            go_wp2
            go_ret
            exact ⟨retb (by unfold Wt.ok; dsimp only; first | exact (decide_eq_false (by omega)).symm | exact decide_eq_decide.2 (by omega)), HB.out⟩
        · go_enter Try.func21, Try.ntmps21
          go_wp2
          go_ret
          exact ⟨retb (by unfold Wt.ok; dsimp only; first | exact (decide_eq_false (by omega)).symm | exact decide_eq_decide.2 (by omega)), HB.out⟩
      · go_enter Try.func21, Try.ntmps21
        go_wp2
        go_ret
        exact ⟨retb (by unfold Wt.ok; dsimp only; first | exact (decide_eq_false (by omega)).symm | exact decide_eq_decide.2 (by omega)), HB.out⟩
    · go_enter Try.func21, Try.ntmps21
      go_wp2
      go_ret
      exact ⟨retb (by unfold Wt.ok; dsimp only; first | exact (decide_eq_false (by omega)).symm | exact decide_eq_decide.2 (by omega)), HB.out⟩
  · go_enter Try.func21, Try.ntmps21
    go_wp2
    go_ret
    exact ⟨retb (by unfold Wt.ok; dsimp only; first | exact (decide_eq_false (by omega)).symm | exact decide_eq_decide.2 (by omega)), HB.out⟩
end Go.Proofs.Ytpbgdldaojpjkaa

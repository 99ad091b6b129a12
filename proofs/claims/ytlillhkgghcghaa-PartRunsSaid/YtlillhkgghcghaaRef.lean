/-
  catchboltref14.Next at every two numbers: the numbers that the function rx gives, which is nx. No conditions.
-/
import Derived.Test.YtlillhkgghcghaaNext
namespace Go.Proofs.Ytlillhkgghcghaa
open Go.ChangeShapes Go.WideShapes Go.ChangeAt Go.RowKit

set_option maxHeartbeats 1000000 in
theorem ref_out (s e : Int) (w : World) (h : s < 0 ∨ 5 < s ∨ e < 1 ∨ 6 < e) :
    Calls Try.prog 9 #[.int .i64 s, .int .i64 e] w fun r w' => r = .returned (.tuple #[.int .i64 (nx s e).1, .int .i64 (nx s e).2.1, .int .i64 (nx s e).2.2.1, .int .i64 (nx s e).2.2.2]) ∧ Below w.heap.size w w' := by
  have hn : nx s e = (0, 0, 0, 1) := by unfold nx; rw [if_pos h]
  rw [hn]; clear hn
  go_enter Try.func9, Try.ntmps9
  go_wp2
  all_goals (try omega)
  all_goals go_returns
  all_goals exact ⟨rfl, by go_grown⟩

theorem ret4 {a b c d a' b' c' d' : Int} (h : (a, b, c, d) = (a', b', c', d')) :
    Ending.returned (.tuple #[.int .i64 a, .int .i64 b, .int .i64 c, .int .i64 d]) = .returned (.tuple #[.int .i64 a', .int .i64 b', .int .i64 c', .int .i64 d']) := by
  simp only [Prod.mk.injEq] at h; obtain ⟨rfl, rfl, rfl, rfl⟩ := h; rfl

set_option maxHeartbeats 4000000 in
theorem ref_0 (e : Int) (w : World) (h1 : 1 ≤ e) (h6 : e ≤ 6) :
    Calls Try.prog 9 #[.int .i64 0, .int .i64 e] w fun r w' => r = .returned (.tuple #[.int .i64 (nx 0 e).1, .int .i64 (nx 0 e).2.1, .int .i64 (nx 0 e).2.2.1, .int .i64 (nx 0 e).2.2.2]) ∧ Below w.heap.size w w' := by
  obtain rfl | rfl | rfl | rfl | rfl | rfl : e = 1 ∨ e = 2 ∨ e = 3 ∨ e = 4 ∨ e = 5 ∨ e = 6 := by omega
  all_goals clear h1 h6
  all_goals
    go_enter Try.func9, Try.ntmps9
    go_wp2
    all_goals go_returns
    all_goals exact ⟨ret4 (by decide +kernel), by go_grown⟩

set_option maxHeartbeats 4000000 in
theorem ref_1 (e : Int) (w : World) (h1 : 1 ≤ e) (h6 : e ≤ 6) :
    Calls Try.prog 9 #[.int .i64 1, .int .i64 e] w fun r w' => r = .returned (.tuple #[.int .i64 (nx 1 e).1, .int .i64 (nx 1 e).2.1, .int .i64 (nx 1 e).2.2.1, .int .i64 (nx 1 e).2.2.2]) ∧ Below w.heap.size w w' := by
  obtain rfl | rfl | rfl | rfl | rfl | rfl : e = 1 ∨ e = 2 ∨ e = 3 ∨ e = 4 ∨ e = 5 ∨ e = 6 := by omega
  all_goals clear h1 h6
  all_goals
    go_enter Try.func9, Try.ntmps9
    go_wp2
    all_goals go_returns
    all_goals exact ⟨ret4 (by decide +kernel), by go_grown⟩

set_option maxHeartbeats 4000000 in
theorem ref_2 (e : Int) (w : World) (h1 : 1 ≤ e) (h6 : e ≤ 6) :
    Calls Try.prog 9 #[.int .i64 2, .int .i64 e] w fun r w' => r = .returned (.tuple #[.int .i64 (nx 2 e).1, .int .i64 (nx 2 e).2.1, .int .i64 (nx 2 e).2.2.1, .int .i64 (nx 2 e).2.2.2]) ∧ Below w.heap.size w w' := by
  obtain rfl | rfl | rfl | rfl | rfl | rfl : e = 1 ∨ e = 2 ∨ e = 3 ∨ e = 4 ∨ e = 5 ∨ e = 6 := by omega
  all_goals clear h1 h6
  all_goals
    go_enter Try.func9, Try.ntmps9
    go_wp2
    all_goals go_returns
    all_goals exact ⟨ret4 (by decide +kernel), by go_grown⟩

set_option maxHeartbeats 4000000 in
theorem ref_3 (e : Int) (w : World) (h1 : 1 ≤ e) (h6 : e ≤ 6) :
    Calls Try.prog 9 #[.int .i64 3, .int .i64 e] w fun r w' => r = .returned (.tuple #[.int .i64 (nx 3 e).1, .int .i64 (nx 3 e).2.1, .int .i64 (nx 3 e).2.2.1, .int .i64 (nx 3 e).2.2.2]) ∧ Below w.heap.size w w' := by
  obtain rfl | rfl | rfl | rfl | rfl | rfl : e = 1 ∨ e = 2 ∨ e = 3 ∨ e = 4 ∨ e = 5 ∨ e = 6 := by omega
  all_goals clear h1 h6
  all_goals
    go_enter Try.func9, Try.ntmps9
    go_wp2
    all_goals go_returns
    all_goals exact ⟨ret4 (by decide +kernel), by go_grown⟩

set_option maxHeartbeats 4000000 in
theorem ref_4 (e : Int) (w : World) (h1 : 1 ≤ e) (h6 : e ≤ 6) :
    Calls Try.prog 9 #[.int .i64 4, .int .i64 e] w fun r w' => r = .returned (.tuple #[.int .i64 (nx 4 e).1, .int .i64 (nx 4 e).2.1, .int .i64 (nx 4 e).2.2.1, .int .i64 (nx 4 e).2.2.2]) ∧ Below w.heap.size w w' := by
  obtain rfl | rfl | rfl | rfl | rfl | rfl : e = 1 ∨ e = 2 ∨ e = 3 ∨ e = 4 ∨ e = 5 ∨ e = 6 := by omega
  all_goals clear h1 h6
  all_goals
    go_enter Try.func9, Try.ntmps9
    go_wp2
    all_goals go_returns
    all_goals exact ⟨ret4 (by decide +kernel), by go_grown⟩

set_option maxHeartbeats 4000000 in
theorem ref_5 (e : Int) (w : World) (h1 : 1 ≤ e) (h6 : e ≤ 6) :
    Calls Try.prog 9 #[.int .i64 5, .int .i64 e] w fun r w' => r = .returned (.tuple #[.int .i64 (nx 5 e).1, .int .i64 (nx 5 e).2.1, .int .i64 (nx 5 e).2.2.1, .int .i64 (nx 5 e).2.2.2]) ∧ Below w.heap.size w w' := by
  obtain rfl | rfl | rfl | rfl | rfl | rfl : e = 1 ∨ e = 2 ∨ e = 3 ∨ e = 4 ∨ e = 5 ∨ e = 6 := by omega
  all_goals clear h1 h6
  all_goals
    go_enter Try.func9, Try.ntmps9
    go_wp2
    all_goals go_returns
    all_goals exact ⟨ret4 (by decide +kernel), by go_grown⟩

theorem ref_any (s e : Int) (w : World) :
    Calls Try.prog 9 #[.int .i64 s, .int .i64 e] w fun r w' => r = .returned (.tuple #[.int .i64 (nx s e).1, .int .i64 (nx s e).2.1, .int .i64 (nx s e).2.2.1, .int .i64 (nx s e).2.2.2]) ∧ Below w.heap.size w w' := by
  by_cases h : s < 0 ∨ 5 < s ∨ e < 1 ∨ 6 < e
  · exact ref_out s e w h
  · have h1 : 1 ≤ e := by omega
    have h6 : e ≤ 6 := by omega
    obtain rfl | rfl | rfl | rfl | rfl | rfl : s = 0 ∨ s = 1 ∨ s = 2 ∨ s = 3 ∨ s = 4 ∨ s = 5 := by omega
    · exact ref_0 e w h1 h6
    · exact ref_1 e w h1 h6
    · exact ref_2 e w h1 h6
    · exact ref_3 e w h1 h6
    · exact ref_4 e w h1 h6
    · exact ref_5 e w h1 h6
end Go.Proofs.Ytlillhkgghcghaa

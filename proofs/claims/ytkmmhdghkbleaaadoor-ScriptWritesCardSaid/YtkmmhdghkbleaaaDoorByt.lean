/-
  catchboltref19.Bytes: over any entry. No other conditions.
-/
import Derived.Test.YtkmmhdghkbleaaaDoorBackAD
import Derived.Test.YtkmmhdghkbleaaaDoorBytF
import Derived.Test.YtkmmhdghkbleaaaDoorRegN
import Derived.Deep.QuietTactic
import Derived.BigQuiet
namespace Go.Proofs.YtkmmhdghkbleaaaDoor
open Go.ChangeShapes Go.WideShapes Go.ChangeAt Go.RowKit
set_option linter.unusedVariables false

set_option maxRecDepth 100000 in
set_option maxHeartbeats 4000000 in
theorem bytes_out (k c t r m p : Int) (w : World) (h : (⟨k, c, t, r, m, p⟩ : Ent).inR = false) :
    Calls Tryd.prog 6 #[.agg #[.int .i64 k, .int .i64 c, .int .i64 t, .int .i64 r, .int .i64 m, .int .i64 p]] w fun e w' => e = .returned (.tuple #[.slice none 0 0, .bool false]) ∧ Below w.heap.size w w' := by
  have hbA : Below w.heap.size w (w.alloc (.cells #[.int .i64 k, .int .i64 c, .int .i64 t, .int .i64 r, .int .i64 m, .int .i64 p] 33)) := (Below.refl _ _).alloc (Nat.le_refl _) _
  have hn : ¬ ((0 ≤ k ∧ k ≤ 9) ∧ (0 ≤ c ∧ c ≤ 255) ∧ (0 ≤ t ∧ t ≤ 255) ∧ (0 ≤ r ∧ r ≤ 255) ∧ (0 ≤ m ∧ m ≤ 255) ∧ 0 ≤ p ∧ p ≤ 16777215) := fun h' => by
    have := inR_iff (e := ⟨k, c, t, r, m, p⟩).2 h'
    rw [h] at this; cases this
  clear h
  go_enter Tryd.func6, Tryd.ntmps6
  by_cases k0 : k < 0
  · clear hn
    go_wp2
    all_goals
      go_ret2
      exact ⟨rfl, hbA⟩
  by_cases k9 : 9 < k
  · clear hn
    go_wp2
    all_goals
      go_ret2
      exact ⟨rfl, hbA⟩
  by_cases c0 : c < 0
  · clear hn
    go_wp2
    all_goals
      go_ret2
      exact ⟨rfl, hbA⟩
  by_cases c9 : 255 < c
  · clear hn
    go_wp2
    all_goals
      go_ret2
      exact ⟨rfl, hbA⟩
  by_cases t0 : t < 0
  · clear hn
    go_wp2
    all_goals
      go_ret2
      exact ⟨rfl, hbA⟩
  by_cases t9 : 255 < t
  · clear hn
    go_wp2
    all_goals
      go_ret2
      exact ⟨rfl, hbA⟩
  by_cases r0 : r < 0
  · clear hn
    go_wp2
    all_goals
      go_ret2
      exact ⟨rfl, hbA⟩
  by_cases r9 : 255 < r
  · clear hn
    go_wp2
    all_goals
      go_ret2
      exact ⟨rfl, hbA⟩
  by_cases m0 : m < 0
  · clear hn
    go_wp2
    all_goals
      go_ret2
      exact ⟨rfl, hbA⟩
  by_cases m9 : 255 < m
  · clear hn
    go_wp2
    all_goals
      go_ret2
      exact ⟨rfl, hbA⟩
  by_cases p0 : p < 0
  · clear hn
    go_wp2
    all_goals
      go_ret2
      exact ⟨rfl, hbA⟩
  by_cases p9 : 16777215 < p
  · clear hn
    go_wp2
    all_goals
      go_ret2
      exact ⟨rfl, hbA⟩
  exact absurd (by omega) hn


end Go.Proofs.YtkmmhdghkbleaaaDoor

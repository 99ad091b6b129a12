/-
  catchboltlaw01.Code: 0 of nil, k of the error number k from 1 to 15. No other conditions.
-/
import Derived.Test.YtonphamahnagfaaDoorIs
import Derived.LoopTactic
namespace Go.Proofs.YtonphamahnagfaaDoor
open Go.ChangeShapes Go.WideShapes Go.ChangeAt Go.RowKit Go.Extern.Stop Go.Stop Go.Extern

theorem code_nil (w : World) :
    Calls Tryd.prog 11 #[.nilIface] w fun e w' => e = .returned (.int .i64 0) ∧ w = w' := by
  go_enter Tryd.func11, Tryd.ntmps11
  go_wp2
  go_ret
  exact ⟨rfl, rfl⟩

set_option maxHeartbeats 400000 in
theorem code_errno (k : Int) (w : World) (h1 : 1 ≤ k) (h15 : k ≤ 15) :
    Calls Tryd.prog 11 #[.iface 57 (.int .i64 k)] w fun e w' => e = .returned (.int .i64 k) ∧ w = w' := by
  go_enter Tryd.func11, Tryd.ntmps11
  go_wp2
  go_loop [3] (fun i => ∃ n : Int, 1 ≤ n ∧ n ≤ k ∧ i = .int .i64 n) (fun i => (20 - intOf i).toNat)
  case atStart => exact ⟨1, by omega, by omega, rfl⟩
  case round =>
    obtain ⟨n, hn1, hn2, rfl⟩ := hrel
    by_cases hk : n = k
    · subst hk
      have hb : (n == n) = true := by simp
      go_wp2_with (go_at_call 28; refine (is_errno _ _ _).mono ?_; rintro e w' ⟨rfl, rfl⟩)
      go_ret
      exact ⟨rfl, rfl⟩
    · have hb : (k == n) = false := by simp; omega
      clear hk
      go_wp2_with (go_at_call 28; refine (is_errno _ _ _).mono ?_; rintro e w' ⟨rfl, rfl⟩)
      all_goals
        go_round
        case rel => exact ⟨n + 1, by omega, by have := (beq_eq_false_iff_ne.1 hb); omega, rfl⟩
        case measure => simp [intOf]; omega
end Go.Proofs.YtonphamahnagfaaDoor

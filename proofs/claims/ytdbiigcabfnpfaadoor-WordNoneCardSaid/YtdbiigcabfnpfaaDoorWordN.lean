/-
  catchboltlaw03.WordNone: no reader takes anything. No other conditions.
-/
import Derived.Test.YtdbiigcabfnpfaaDoorWordA
namespace Go.Proofs.YtdbiigcabfnpfaaDoor
open Go.ChangeShapes Go.WideShapes Go.ChangeAt Go.RowKit
set_option linter.unusedVariables false

set_option maxRecDepth 100000 in
set_option maxHeartbeats 1000000 in
theorem none_true (width : Int) (A : Option Addr) (n c : Nat) (w : World) (hE : ErrT w) :
    Calls Tryd.prog 6 #[.int .i64 width, .slice A n c] w fun e w' => e = .returned (.bool true) ∧ Below w.heap.size w w' := by
  have HA := Lib.hid (alive_true w hE)
  clear hE
  go_enter Tryd.func6, Tryd.ntmps6
  go_wp2_with fail
  refine HA.out.mono ?_
  rintro e w1 ⟨rfl, hb1⟩
  go_wp2_with (go_at_call 14; refine (take_nil _ _).mono ?_; rintro e w' ⟨rfl, rfl⟩)
  refine (all_nil _ _ _ _).mono ?_
  rintro e w2 ⟨rfl, hb2⟩
  go_wp2_with (first
    | (go_at_call 11; refine (code_errno 1 _ (by omega) (by omega)).mono ?_; rintro e w' ⟨rfl, rfl⟩)
    | (go_at_call 17; refine (at_nil _).mono ?_; rintro e w' ⟨rfl, rfl⟩)
    | (go_at_call 15; refine (left_nil _).mono ?_; rintro e w' ⟨rfl, rfl⟩))
  go_ret
  exact ⟨rfl, hb1.trans (hb2.mono hb1.size)⟩
end Go.Proofs.YtdbiigcabfnpfaaDoor

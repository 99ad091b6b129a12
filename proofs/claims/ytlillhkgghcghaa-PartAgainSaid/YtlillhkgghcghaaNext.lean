/-
  part.Next at every two numbers: the state, the answer and the error that the function nx gives. No conditions.
-/
import Derived.Test.YtlillhkgghcghaaIs
namespace Go.Proofs.Ytlillhkgghcghaa
open Go.ChangeShapes Go.WideShapes Go.ChangeAt Go.RowKit

def nx (s e : Int) : Int × Int × Int × Int :=
  if s < 0 ∨ 5 < s ∨ e < 1 ∨ 6 < e then (0, 0, 0, 1)
  else if s = 4 ∨ s = 5 then (if e = 3 ∨ e = 4 then (s, 7, 0, 0) else (s, 0, 0, 15))
  else if e = 3 then (4, 7, 0, 0) else if e = 4 then (5, 7, 0, 0)
  else if s = 3 then (if e = 2 then (3, 5, 0, 0) else (3, 9, 0, 0))
  else if e = 1 then (if s = 2 then (s, 0, 0, 11) else (1, 0, 0, 0))
  else if e = 2 then (if s = 0 then (s, 5, 0, 0) else (2, 5, 1, 0))
  else if e = 6 then (if s = 1 then (3, 9, 0, 0) else (s, 0, 0, 11))
  else (s, 0, 0, 0)

def errV (k : Int) : Value := if k = 0 then .nilIface else .iface 38 (.int .i64 k)

def NxPost (s e : Int) (w : World) (r : Ending) (w' : World) : Prop :=
  r = .returned (.tuple #[.int .i64 (nx s e).1, .agg #[.int .i64 (nx s e).2.1, .int .i64 (nx s e).2.2.1], errV (nx s e).2.2.2]) ∧ Below w.heap.size w w'

theorem nxPost_nil {s e : Int} {w w' : World} {a b c : Int} {r : Ending} (h : nx s e = (a, b, c, 0)) (hr : r = .returned (.tuple #[.int .i64 a, .agg #[.int .i64 b, .int .i64 c], .nilIface])) (hg : Below w.heap.size w w') : NxPost s e w r w' := by
  unfold NxPost; rw [h]; exact ⟨hr, hg⟩
theorem nxPost_err {s e : Int} {w w' : World} {a b c d : Int} {r : Ending} (h : nx s e = (a, b, c, d)) (hd : d ≠ 0) (hr : r = .returned (.tuple #[.int .i64 a, .agg #[.int .i64 b, .int .i64 c], .iface 38 (.int .i64 d)])) (hg : Below w.heap.size w w') : NxPost s e w r w' := by
  unfold NxPost; rw [h]; refine ⟨?_, hg⟩; simp only [errV, if_neg hd]; exact hr

set_option maxHeartbeats 1000000 in
theorem next_any (s e : Int) (w : World) :
    Calls Try.prog 8 #[.int .i64 s, .int .i64 e] w (NxPost s e w) := by
  go_enter Try.func8, Try.ntmps8
  go_wp2
  all_goals go_returns
  all_goals (first | refine nxPost_nil ?_ rfl ?_ | refine nxPost_err ?_ ?_ rfl ?_)
  all_goals (try (first | (with_reducible exact (by decide : (1 : Int) ≠ 0)) | (with_reducible exact (by decide : (11 : Int) ≠ 0)) | (with_reducible exact (by decide : (15 : Int) ≠ 0))))
  all_goals (first | (go_grown; done) | skip)
  all_goals (try simp only [beq_iff_eq, beq_eq_false_iff_ne, bne_iff_ne, bne_eq_false_iff_eq] at *)
  all_goals (unfold nx; repeat (first | rw [if_pos (by omega)] | rw [if_neg (by omega)]))
  all_goals (simp only [Prod.mk.injEq, and_true]; omega)
end Go.Proofs.Ytlillhkgghcghaa

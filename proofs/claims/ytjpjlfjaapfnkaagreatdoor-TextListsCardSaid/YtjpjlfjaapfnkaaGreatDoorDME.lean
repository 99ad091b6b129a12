/-
  Entries as one document has them. No conditions beyond those that each theorem states.
-/
import Derived.Test.YtjpjlfjaapfnkaaGreatDoorRows
import Derived.Test.YtjpjlfjaapfnkaaGreatDoorDMA
import Derived.Test.YtjpjlfjaapfnkaaGreatDoorDMB
import Derived.WalkKit
import Derived.ProofKit
import Derived.OpenShut
import Derived.Handy
import Derived.Below
import Derived.Lib.Hide
import Derived.Deep.Light
set_option linter.unusedVariables false
set_option linter.unusedSimpArgs false
namespace Go.Proofs.YtjpjlfjaapfnkaaGreatDoor
open Go.ChangeShapes Go.WideShapes Go.ChangeAt Go.RowKit
set_option maxHeartbeats 1000000 in
theorem resok_any (t r : Int) (w : World) :
 Calls Tryz.prog 67 #[.agg #[.int .i64 t, .int .i64 r]] w fun e w' => e = .returned (.bool (resB t r)) ∧ w.alloc (.cells #[.int .i64 t, .int .i64 r] 23) = w' := by
 by_cases h1 : 1 ≤ t
 ·by_cases h2 : t ≤ 250
  ·by_cases h3 : 0 ≤ r
   ·by_cases h4 : r ≤ 250
    ·have hB : resB t r = true := by simp only [resB, h1, h2, h3, h4, and_self, decide_true]
     rw [hB]; clear hB
     go_enter Tryz.func67, Tryz.ntmps67
     go_wp2
     go_ret
     exact ⟨by simp, rfl⟩
    ·have hB : resB t r = false := by simp only [resB, h4, and_false, decide_false]
     rw [hB]; clear hB
     go_enter Tryz.func67, Tryz.ntmps67
     go_wp2
     go_ret
     exact ⟨by simp, rfl⟩
   ·have hB : resB t r = false := by simp only [resB, h3, and_false, false_and, decide_false]
    rw [hB]; clear hB
    go_enter Tryz.func67, Tryz.ntmps67
    go_wp2
    go_ret
    exact ⟨by simp, rfl⟩
  ·have hB : resB t r = false := by simp only [resB, h2, and_false, false_and, decide_false]
   rw [hB]; clear hB
   go_enter Tryz.func67, Tryz.ntmps67
   go_wp2
   go_ret
   exact ⟨by simp, rfl⟩
 ·have hB : resB t r = false := by simp only [resB, h1, false_and, decide_false]
  rw [hB]; clear hB
  go_enter Tryz.func67, Tryz.ntmps67
  go_wp2
  go_ret
  exact ⟨by simp, rfl⟩
set_option maxHeartbeats 2000000 in
theorem entok_3 (c t r m p : Int) (w : World) :
 Calls Tryz.prog 27 #[.agg #[.int .i64 3, .int .i64 c, .int .i64 t, .int .i64 r, .int .i64 m, .int .i64 p]] w fun e w' => e = .returned (.bool (entB 3 c t r m p)) ∧ Below w.heap.size w w' := by
 go_enter Tryz.func27, Tryz.ntmps27
 go_wp2_with (go_at_call 67; refine (resok_any _ _ _).mono ?_; rintro e w' ⟨rfl, rfl⟩)
 all_goals
  go_ret
  refine ⟨retb ?_, by go_grown⟩
  go_light
  try simp only [resB, decide_eq_true_eq] at *
  first
  | rfl
  | (refine Eq.symm (decide_eq_true ?_); omega)
  | (refine Eq.symm (decide_eq_false ?_); omega)
  | (simp; omega)
set_option maxHeartbeats 2000000 in
theorem entok_k (k c t r m p : Int) (w : World) (hk : k = 0 ∨ k = 1 ∨ k = 2 ∨ k = 4 ∨ k = 5 ∨ k = 6 ∨ k = 7 ∨ k = 8 ∨ k = 9) :
 Calls Tryz.prog 27 #[.agg #[.int .i64 k, .int .i64 c, .int .i64 t, .int .i64 r, .int .i64 m, .int .i64 p]] w fun e w' => e = .returned (.bool (entB k c t r m p)) ∧ Below w.heap.size w w' := by
 rcases hk with rfl | rfl | rfl | rfl | rfl | rfl | rfl | rfl | rfl
 all_goals
  go_enter Tryz.func27, Tryz.ntmps27
  go_wp2
  all_goals
   go_ret
   refine ⟨retb ?_, by go_grown⟩
   go_light
   try simp only [resB, decide_eq_true_eq, Bool.not_eq_true, decide_eq_false_iff_not] at *
   first
   | rfl
   | (refine Eq.symm (decide_eq_true ?_); omega)
   | (refine Eq.symm (decide_eq_false ?_); omega)
   | (simp; omega)
theorem entB_other (k c t r m p : Int) (hk : k < 0 ∨ 9 < k) : entB k c t r m p = false := by
 unfold entB; rw [if_neg (by omega), if_neg (by omega), if_neg (by omega), if_neg (by omega)]
set_option maxHeartbeats 2000000 in
theorem entok_o (k c t r m p : Int) (w : World) (hk : k < 0 ∨ 9 < k) :
 Calls Tryz.prog 27 #[.agg #[.int .i64 k, .int .i64 c, .int .i64 t, .int .i64 r, .int .i64 m, .int .i64 p]] w fun e w' => e = .returned (.bool (entB k c t r m p)) ∧ Below w.heap.size w w' := by
 rw [entB_other k c t r m p hk]
 have h0 : (k == 0) = false := by simp; omega
 have h1 : (k == 1) = false := by simp; omega
 have h2 : (k == 2) = false := by simp; omega
 have h3 : (k == 3) = false := by simp; omega
 have h4 : (k == 4) = false := by simp; omega
 have h5 : (k == 5) = false := by simp; omega
 have h6 : (k == 6) = false := by simp; omega
 have h7 : (k == 7) = false := by simp; omega
 have h8 : (k == 8) = false := by simp; omega
 have h9 : (k == 9) = false := by simp; omega
 clear hk
 go_enter Tryz.func27, Tryz.ntmps27
 go_wp2
 go_ret
 exact ⟨rfl, by go_grown⟩
theorem entok_any (k c t r m p : Int) (w : World) :
 Calls Tryz.prog 27 #[.agg #[.int .i64 k, .int .i64 c, .int .i64 t, .int .i64 r, .int .i64 m, .int .i64 p]] w fun e w' => e = .returned (.bool (entB k c t r m p)) ∧ Below w.heap.size w w' := by
 by_cases h3 : k = 3
 ·subst h3; exact entok_3 c t r m p w
 ·by_cases ho : k < 0 ∨ 9 < k
  ·exact entok_o k c t r m p w ho
  ·exact entok_k k c t r m p w (by omega)
end Go.Proofs.YtjpjlfjaapfnkaaGreatDoor

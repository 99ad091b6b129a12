/-
  The document's Form. No conditions beyond those that each theorem states.
-/
import Derived.Test.YtjpjlfjaapfnkaaGreatDoorDMG
set_option linter.unusedVariables false
set_option linter.unusedSimpArgs false
namespace Go.Proofs.YtjpjlfjaapfnkaaGreatDoor.C20
open Go.ChangeShapes Go.WideShapes Go.ChangeAt Go.RowKit Go.Maps
set_option maxRecDepth 100000 in
set_option maxHeartbeats 20000000 in
theorem rform4 (c x t r m q : Int) (w : World) :
 Calls Tryz.prog 50 #[.agg #[.int .i64 4, .int .i64 c, .int .i64 x, .int .i64 t, .int .i64 r, .int .i64 m, .int .i64 q]] w fun e w' => e = .returned (.bool (formB ⟨4, c, x, t, r, m, q⟩)) ∧ Below w.heap.size w w' := by
 by_cases hc : c = 0
 rotate_left
 ·have hbc : (c == 0) = false := by simpa using hc
  have hcc : (c != 0) = true := by simpa using hc
  go_enter Tryz.func50, Tryz.ntmps50
  go_wp2
  go_ret
  exact ⟨retb (by simp [formB, *] <;> omega), by go_grown⟩
 ·subst hc
  by_cases hx1 : x < 1
  ·skip
   go_enter Tryz.func50, Tryz.ntmps50
   go_wp2
   go_ret
   exact ⟨retb (by simp [formB, *] <;> omega), by go_grown⟩
  ·skip
   cases hr : resB t r with
   | false =>
    have HR := Lib.hid hr
    clear hr
    go_enter Tryz.func50, Tryz.ntmps50
    go_wp2_with (go_at_call 82; refine (rok2_at _ _ _ _ HR.out).mono ?_; rintro e w' ⟨rfl, rfl⟩)
    go_ret
    exact ⟨retb (by have HRo := HR.out; simp [formB, *] <;> omega), by go_grown⟩
   | true =>
    have HR := Lib.hid hr
    clear hr
    by_cases hm : m = 0
    rotate_left
    ·have hbm : (m == 0) = false := by simpa using hm
     have hcm : (m != 0) = true := by simpa using hm
     go_enter Tryz.func50, Tryz.ntmps50
     go_wp2_with (go_at_call 82; refine (rok2_at _ _ _ _ HR.out).mono ?_; rintro e w' ⟨rfl, rfl⟩)
     go_ret
     exact ⟨retb (by have HRo := HR.out; simp [formB, *] <;> omega), by go_grown⟩
    ·subst hm
     by_cases hq1 : q < 1
     ·skip
      go_enter Tryz.func50, Tryz.ntmps50
      go_wp2_with (go_at_call 82; refine (rok2_at _ _ _ _ HR.out).mono ?_; rintro e w' ⟨rfl, rfl⟩)
      go_ret
      exact ⟨retb (by have HRo := HR.out; simp [formB, *] <;> omega), by go_grown⟩
     ·skip
      by_cases hqm : 15 < q
      ·skip
       go_enter Tryz.func50, Tryz.ntmps50
       go_wp2_with (go_at_call 82; refine (rok2_at _ _ _ _ HR.out).mono ?_; rintro e w' ⟨rfl, rfl⟩)
       go_ret
       exact ⟨retb (by have HRo := HR.out; simp [formB, *] <;> omega), by go_grown⟩
      ·skip
       go_enter Tryz.func50, Tryz.ntmps50
       go_wp2_with (go_at_call 82; refine (rok2_at _ _ _ _ HR.out).mono ?_; rintro e w' ⟨rfl, rfl⟩)
       go_ret
       exact ⟨retb (by have HRo := HR.out; simp [formB, *] <;> omega), by go_grown⟩
set_option maxRecDepth 100000 in
set_option maxHeartbeats 20000000 in
theorem rform6 (c x t r m q : Int) (w : World) :
 Calls Tryz.prog 50 #[.agg #[.int .i64 6, .int .i64 c, .int .i64 x, .int .i64 t, .int .i64 r, .int .i64 m, .int .i64 q]] w fun e w' => e = .returned (.bool (formB ⟨6, c, x, t, r, m, q⟩)) ∧ Below w.heap.size w w' := by
 by_cases hc : c = 0
 rotate_left
 ·have hbc : (c == 0) = false := by simpa using hc
  have hcc : (c != 0) = true := by simpa using hc
  go_enter Tryz.func50, Tryz.ntmps50
  go_wp2
  go_ret
  exact ⟨retb (by simp [formB, *] <;> omega), by go_grown⟩
 ·subst hc
  by_cases hx1 : x < 1
  ·skip
   go_enter Tryz.func50, Tryz.ntmps50
   go_wp2
   go_ret
   exact ⟨retb (by simp [formB, *] <;> omega), by go_grown⟩
  ·skip
   by_cases ht : t = 0
   rotate_left
   ·have hbt : (t == 0) = false := by simpa using ht
    have hct : (t != 0) = true := by simpa using ht
    go_enter Tryz.func50, Tryz.ntmps50
    go_wp2
    go_ret
    exact ⟨retb (by simp [formB, *] <;> omega), by go_grown⟩
   ·subst ht
    by_cases hr : r = 0
    rotate_left
    ·have hbr : (r == 0) = false := by simpa using hr
     have hcr : (r != 0) = true := by simpa using hr
     go_enter Tryz.func50, Tryz.ntmps50
     go_wp2
     go_ret
     exact ⟨retb (by simp [formB, *] <;> omega), by go_grown⟩
    ·subst hr
     by_cases hm : m = 0
     rotate_left
     ·have hbm : (m == 0) = false := by simpa using hm
      have hcm : (m != 0) = true := by simpa using hm
      go_enter Tryz.func50, Tryz.ntmps50
      go_wp2
      go_ret
      exact ⟨retb (by simp [formB, *] <;> omega), by go_grown⟩
     ·subst hm
      by_cases hq : q = 0
      rotate_left
      ·have hbq : (q == 0) = false := by simpa using hq
       have hcq : (q != 0) = true := by simpa using hq
       go_enter Tryz.func50, Tryz.ntmps50
       go_wp2
       go_ret
       exact ⟨retb (by simp [formB, *] <;> omega), by go_grown⟩
      ·subst hq
       go_enter Tryz.func50, Tryz.ntmps50
       go_wp2
       go_ret
       exact ⟨retb (by simp [formB, *] <;> omega), by go_grown⟩
set_option maxRecDepth 100000 in
set_option maxHeartbeats 20000000 in
theorem rform7 (c x t r m q : Int) (w : World) :
 Calls Tryz.prog 50 #[.agg #[.int .i64 7, .int .i64 c, .int .i64 x, .int .i64 t, .int .i64 r, .int .i64 m, .int .i64 q]] w fun e w' => e = .returned (.bool (formB ⟨7, c, x, t, r, m, q⟩)) ∧ Below w.heap.size w w' := by
 by_cases hc : c = 0
 rotate_left
 ·have hbc : (c == 0) = false := by simpa using hc
  have hcc : (c != 0) = true := by simpa using hc
  go_enter Tryz.func50, Tryz.ntmps50
  go_wp2
  go_ret
  exact ⟨retb (by simp [formB, *] <;> omega), by go_grown⟩
 ·subst hc
  by_cases hx1 : x < 1
  ·skip
   go_enter Tryz.func50, Tryz.ntmps50
   go_wp2
   go_ret
   exact ⟨retb (by simp [formB, *] <;> omega), by go_grown⟩
  ·skip
   by_cases ht : t = 0
   rotate_left
   ·have hbt : (t == 0) = false := by simpa using ht
    have hct : (t != 0) = true := by simpa using ht
    go_enter Tryz.func50, Tryz.ntmps50
    go_wp2
    go_ret
    exact ⟨retb (by simp [formB, *] <;> omega), by go_grown⟩
   ·subst ht
    by_cases hr : r = 0
    rotate_left
    ·have hbr : (r == 0) = false := by simpa using hr
     have hcr : (r != 0) = true := by simpa using hr
     go_enter Tryz.func50, Tryz.ntmps50
     go_wp2
     go_ret
     exact ⟨retb (by simp [formB, *] <;> omega), by go_grown⟩
    ·subst hr
     by_cases hm : m = 0
     rotate_left
     ·have hbm : (m == 0) = false := by simpa using hm
      have hcm : (m != 0) = true := by simpa using hm
      go_enter Tryz.func50, Tryz.ntmps50
      go_wp2
      go_ret
      exact ⟨retb (by simp [formB, *] <;> omega), by go_grown⟩
     ·subst hm
      by_cases hq1 : q < 1
      ·skip
       go_enter Tryz.func50, Tryz.ntmps50
       go_wp2
       go_ret
       exact ⟨retb (by simp [formB, *] <;> omega), by go_grown⟩
      ·skip
       by_cases hqm : 5 < q
       ·skip
        go_enter Tryz.func50, Tryz.ntmps50
        go_wp2
        go_ret
        exact ⟨retb (by simp [formB, *] <;> omega), by go_grown⟩
       ·skip
        go_enter Tryz.func50, Tryz.ntmps50
        go_wp2
        go_ret
        exact ⟨retb (by simp [formB, *] <;> omega), by go_grown⟩
end Go.Proofs.YtjpjlfjaapfnkaaGreatDoor.C20

/-
  The document's Form, kinds 1 to 3. No conditions beyond those that each theorem states.
-/
import Derived.Test.YtjpjlfjaapfnkaaGreatDoorDMG
set_option linter.unusedVariables false
set_option linter.unusedSimpArgs false
namespace Go.Proofs.YtjpjlfjaapfnkaaGreatDoor.C20
open Go.ChangeShapes Go.WideShapes Go.ChangeAt Go.RowKit Go.Maps
set_option maxRecDepth 100000 in
set_option maxHeartbeats 20000000 in
theorem rform1 (c x t r m q : Int) (w : World) :
 Calls Tryz.prog 50 #[.agg #[.int .i64 1, .int .i64 c, .int .i64 x, .int .i64 t, .int .i64 r, .int .i64 m, .int .i64 q]] w fun e w' => e = .returned (.bool (formB ⟨1, c, x, t, r, m, q⟩)) ∧ Below w.heap.size w w' := by
 by_cases hc1 : c < 1
 ·skip
  go_enter Tryz.func50, Tryz.ntmps50
  go_wp2
  go_ret
  exact ⟨retb (by simp [formB, *] <;> omega), by go_grown⟩
 ·skip
  by_cases hc8 : 8 < c
  ·skip
   go_enter Tryz.func50, Tryz.ntmps50
   go_wp2
   go_ret
   exact ⟨retb (by simp [formB, *] <;> omega), by go_grown⟩
  ·skip
   by_cases hx1 : x < 1
   ·skip
    go_enter Tryz.func50, Tryz.ntmps50
    go_wp2
    go_ret
    exact ⟨retb (by simp [formB, *] <;> omega), by go_grown⟩
   ·skip
    by_cases ht : t = 0
    rotate_left
    ·have hbt : (t == 0) = false := by simpa using ht
     have hct : (t != 0) = true := by simpa using ht
     go_enter Tryz.func50, Tryz.ntmps50
     go_wp2
     go_ret
     exact ⟨retb (by simp [formB, *] <;> omega), by go_grown⟩
    ·subst ht
     by_cases hr : r = 0
     rotate_left
     ·have hbr : (r == 0) = false := by simpa using hr
      have hcr : (r != 0) = true := by simpa using hr
      go_enter Tryz.func50, Tryz.ntmps50
      go_wp2
      go_ret
      exact ⟨retb (by simp [formB, *] <;> omega), by go_grown⟩
     ·subst hr
      by_cases hm : m = 0
      rotate_left
      ·have hbm : (m == 0) = false := by simpa using hm
       have hcm : (m != 0) = true := by simpa using hm
       go_enter Tryz.func50, Tryz.ntmps50
       go_wp2
       go_ret
       exact ⟨retb (by simp [formB, *] <;> omega), by go_grown⟩
      ·subst hm
       by_cases hq : q = 0
       rotate_left
       ·have hbq : (q == 0) = false := by simpa using hq
        have hcq : (q != 0) = true := by simpa using hq
        go_enter Tryz.func50, Tryz.ntmps50
        go_wp2
        go_ret
        exact ⟨retb (by simp [formB, *] <;> omega), by go_grown⟩
       ·subst hq
        go_enter Tryz.func50, Tryz.ntmps50
        go_wp2
        go_ret
        exact ⟨retb (by simp [formB, *] <;> omega), by go_grown⟩
set_option maxRecDepth 100000 in
set_option maxHeartbeats 20000000 in
theorem rform8 (c x t r m q : Int) (w : World) :
 Calls Tryz.prog 50 #[.agg #[.int .i64 8, .int .i64 c, .int .i64 x, .int .i64 t, .int .i64 r, .int .i64 m, .int .i64 q]] w fun e w' => e = .returned (.bool (formB ⟨8, c, x, t, r, m, q⟩)) ∧ Below w.heap.size w w' := by
 by_cases hc1 : c < 1
 ·skip
  go_enter Tryz.func50, Tryz.ntmps50
  go_wp2
  go_ret
  exact ⟨retb (by simp [formB, *] <;> omega), by go_grown⟩
 ·skip
  by_cases hc8 : 8 < c
  ·skip
   go_enter Tryz.func50, Tryz.ntmps50
   go_wp2
   go_ret
   exact ⟨retb (by simp [formB, *] <;> omega), by go_grown⟩
  ·skip
   by_cases hx : x = 0
   rotate_left
   ·have hbx : (x == 0) = false := by simpa using hx
    have hcx : (x != 0) = true := by simpa using hx
    go_enter Tryz.func50, Tryz.ntmps50
    go_wp2
    go_ret
    exact ⟨retb (by simp [formB, *] <;> omega), by go_grown⟩
   ·subst hx
    by_cases ht : t = 0
    rotate_left
    ·have hbt : (t == 0) = false := by simpa using ht
     have hct : (t != 0) = true := by simpa using ht
     go_enter Tryz.func50, Tryz.ntmps50
     go_wp2
     go_ret
     exact ⟨retb (by simp [formB, *] <;> omega), by go_grown⟩
    ·subst ht
     by_cases hr : r = 0
     rotate_left
     ·have hbr : (r == 0) = false := by simpa using hr
      have hcr : (r != 0) = true := by simpa using hr
      go_enter Tryz.func50, Tryz.ntmps50
      go_wp2
      go_ret
      exact ⟨retb (by simp [formB, *] <;> omega), by go_grown⟩
     ·subst hr
      by_cases hm : m = 0
      rotate_left
      ·have hbm : (m == 0) = false := by simpa using hm
       have hcm : (m != 0) = true := by simpa using hm
       go_enter Tryz.func50, Tryz.ntmps50
       go_wp2
       go_ret
       exact ⟨retb (by simp [formB, *] <;> omega), by go_grown⟩
      ·subst hm
       by_cases hq : q = 0
       rotate_left
       ·have hbq : (q == 0) = false := by simpa using hq
        have hcq : (q != 0) = true := by simpa using hq
        go_enter Tryz.func50, Tryz.ntmps50
        go_wp2
        go_ret
        exact ⟨retb (by simp [formB, *] <;> omega), by go_grown⟩
       ·subst hq
        go_enter Tryz.func50, Tryz.ntmps50
        go_wp2
        go_ret
        exact ⟨retb (by simp [formB, *] <;> omega), by go_grown⟩
set_option maxRecDepth 100000 in
set_option maxHeartbeats 20000000 in
theorem rform5 (c x t r m q : Int) (w : World) :
 Calls Tryz.prog 50 #[.agg #[.int .i64 5, .int .i64 c, .int .i64 x, .int .i64 t, .int .i64 r, .int .i64 m, .int .i64 q]] w fun e w' => e = .returned (.bool (formB ⟨5, c, x, t, r, m, q⟩)) ∧ Below w.heap.size w w' := by
 by_cases hc : c = 0
 rotate_left
 ·have hbc : (c == 0) = false := by simpa using hc
  have hcc : (c != 0) = true := by simpa using hc
  go_enter Tryz.func50, Tryz.ntmps50
  go_wp2
  go_ret
  exact ⟨retb (by simp [formB, *] <;> omega), by go_grown⟩
 ·subst hc
  by_cases hx1 : x < 1
  ·skip
   go_enter Tryz.func50, Tryz.ntmps50
   go_wp2
   go_ret
   exact ⟨retb (by simp [formB, *] <;> omega), by go_grown⟩
  ·skip
   by_cases ht : t = 0
   rotate_left
   ·have hbt : (t == 0) = false := by simpa using ht
    have hct : (t != 0) = true := by simpa using ht
    go_enter Tryz.func50, Tryz.ntmps50
    go_wp2
    go_ret
    exact ⟨retb (by simp [formB, *] <;> omega), by go_grown⟩
   ·subst ht
    by_cases hr : r = 0
    rotate_left
    ·have hbr : (r == 0) = false := by simpa using hr
     have hcr : (r != 0) = true := by simpa using hr
     go_enter Tryz.func50, Tryz.ntmps50
     go_wp2
     go_ret
     exact ⟨retb (by simp [formB, *] <;> omega), by go_grown⟩
    ·subst hr
     by_cases hm : m = 0
     rotate_left
     ·have hbm : (m == 0) = false := by simpa using hm
      have hcm : (m != 0) = true := by simpa using hm
      go_enter Tryz.func50, Tryz.ntmps50
      go_wp2
      go_ret
      exact ⟨retb (by simp [formB, *] <;> omega), by go_grown⟩
     ·subst hm
      by_cases hq : q = 0
      rotate_left
      ·have hbq : (q == 0) = false := by simpa using hq
       have hcq : (q != 0) = true := by simpa using hq
       go_enter Tryz.func50, Tryz.ntmps50
       go_wp2
       go_ret
       exact ⟨retb (by simp [formB, *] <;> omega), by go_grown⟩
      ·subst hq
       go_enter Tryz.func50, Tryz.ntmps50
       go_wp2
       go_ret
       exact ⟨retb (by simp [formB, *] <;> omega), by go_grown⟩
end Go.Proofs.YtjpjlfjaapfnkaaGreatDoor.C20

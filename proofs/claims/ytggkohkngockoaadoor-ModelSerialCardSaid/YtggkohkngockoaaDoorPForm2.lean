/-
  model.form: the kinds with a resource, and none of the kinds. No conditions.
-/
import Derived.Test.YtggkohkngockoaaDoorPForm
namespace Go.Proofs.YtggkohkngockoaaDoor
open Go.ChangeShapes Go.WideShapes Go.ChangeAt Go.RowKit
set_option linter.unusedVariables false
set_option linter.unusedSimpArgs false

set_option maxHeartbeats 1000000 in
theorem resok_at (t r : Int) (w : World) (b : Bool) (h : resB t r = b) :
    Calls Tryd.prog 48 #[.agg #[.int .i64 t, .int .i64 r]] w fun e w' => e = .returned (.bool b) ∧ w.alloc (.cells #[.int .i64 t, .int .i64 r] 40) = w' := by
  subst h
  unfold resB
  go_enter Tryd.func48, Tryd.ntmps48
  by_cases h1 : 1 ≤ t
  · by_cases h2 : t ≤ 250
    · by_cases h3 : 0 ≤ r
      · by_cases h4 : r ≤ 250
        · go_wp2
          go_ret
          exact ⟨retb (by simp [h1, h2, h3, h4]), rfl⟩
        · go_wp2
          go_ret
          exact ⟨retb (by simp; omega), rfl⟩
      · go_wp2
        go_ret
        exact ⟨retb (by simp; omega), rfl⟩
    · go_wp2
      go_ret
      exact ⟨retb (by simp; omega), rfl⟩
  · go_wp2
    go_ret
    exact ⟨retb (by simp; omega), rfl⟩


set_option maxHeartbeats 2000000 in
theorem form2 (c x t r m q : Int) (w : World) :
    Calls Tryd.prog 34 #[.agg #[.int .i64 2, .int .i64 c, .int .i64 x, .int .i64 t, .int .i64 r, .int .i64 m, .int .i64 q]] w fun e w' => e = .returned (.bool (formB ⟨2, c, x, t, r, m, q⟩)) ∧ Below w.heap.size w w' := by
  by_cases h2 : 1 ≤ m ∧ m ≤ 4
  · obtain ⟨h3, h4⟩ := h2
    cases hr : resB t r with
    | true =>
      have HR := Lib.hid hr
      clear hr
      by_cases h1 : 1 ≤ x
      · skip
        go_enter Tryd.func34, Tryd.ntmps34
        go_wp2_with (first | (go_at_call 47; refine (in_yes _ _ _ _ (by omega)).mono ?_; rintro e w' ⟨rfl, rfl⟩) | (go_at_call 48; refine (resok_at _ _ _ _ HR.out).mono ?_; rintro e w' ⟨rfl, rfl⟩))
        all_goals (go_ret; refine ⟨retb ?_, by go_grown⟩; have := HR.out; simp [formB, *]; try omega)
      · skip
        go_enter Tryd.func34, Tryd.ntmps34
        go_wp2_with (first | (go_at_call 47; refine (in_yes _ _ _ _ (by omega)).mono ?_; rintro e w' ⟨rfl, rfl⟩) | (go_at_call 48; refine (resok_at _ _ _ _ HR.out).mono ?_; rintro e w' ⟨rfl, rfl⟩))
        all_goals (go_ret; refine ⟨retb ?_, by go_grown⟩; have := HR.out; simp [formB, *]; try omega)
    | false =>
      have HR := Lib.hid hr
      clear hr
      go_enter Tryd.func34, Tryd.ntmps34
      go_wp2_with (first | (go_at_call 47; refine (in_yes _ _ _ _ (by omega)).mono ?_; rintro e w' ⟨rfl, rfl⟩) | (go_at_call 48; refine (resok_at _ _ _ _ HR.out).mono ?_; rintro e w' ⟨rfl, rfl⟩))
      all_goals (go_ret; refine ⟨retb ?_, by go_grown⟩; have := HR.out; simp [formB, *]; try omega)
  · have H2 := Lib.hid h2
    clear h2
    go_enter Tryd.func34, Tryd.ntmps34
    go_wp2_with (go_at_call 47; refine (in_no _ _ _ _ H2.out).mono ?_; rintro e w' ⟨rfl, rfl⟩)
    all_goals (go_ret; refine ⟨retb ?_, by go_grown⟩; have := H2.out; simp [formB, *]; try omega)
set_option maxHeartbeats 2000000 in
theorem form3 (c x t r m q : Int) (w : World) :
    Calls Tryd.prog 34 #[.agg #[.int .i64 3, .int .i64 c, .int .i64 x, .int .i64 t, .int .i64 r, .int .i64 m, .int .i64 q]] w fun e w' => e = .returned (.bool (formB ⟨3, c, x, t, r, m, q⟩)) ∧ Below w.heap.size w w' := by
  by_cases h2 : 1 ≤ m ∧ m ≤ 4
  · obtain ⟨h3, h4⟩ := h2
    cases hr : resB t r with
    | true =>
      have HR := Lib.hid hr
      clear hr
      by_cases h1 : 1 ≤ x
      · skip
        go_enter Tryd.func34, Tryd.ntmps34
        go_wp2_with (first | (go_at_call 47; refine (in_yes _ _ _ _ (by omega)).mono ?_; rintro e w' ⟨rfl, rfl⟩) | (go_at_call 48; refine (resok_at _ _ _ _ HR.out).mono ?_; rintro e w' ⟨rfl, rfl⟩))
        all_goals (go_ret; refine ⟨retb ?_, by go_grown⟩; have := HR.out; simp [formB, *]; try omega)
      · skip
        go_enter Tryd.func34, Tryd.ntmps34
        go_wp2_with (first | (go_at_call 47; refine (in_yes _ _ _ _ (by omega)).mono ?_; rintro e w' ⟨rfl, rfl⟩) | (go_at_call 48; refine (resok_at _ _ _ _ HR.out).mono ?_; rintro e w' ⟨rfl, rfl⟩))
        all_goals (go_ret; refine ⟨retb ?_, by go_grown⟩; have := HR.out; simp [formB, *]; try omega)
    | false =>
      have HR := Lib.hid hr
      clear hr
      go_enter Tryd.func34, Tryd.ntmps34
      go_wp2_with (first | (go_at_call 47; refine (in_yes _ _ _ _ (by omega)).mono ?_; rintro e w' ⟨rfl, rfl⟩) | (go_at_call 48; refine (resok_at _ _ _ _ HR.out).mono ?_; rintro e w' ⟨rfl, rfl⟩))
      all_goals (go_ret; refine ⟨retb ?_, by go_grown⟩; have := HR.out; simp [formB, *]; try omega)
  · have H2 := Lib.hid h2
    clear h2
    go_enter Tryd.func34, Tryd.ntmps34
    go_wp2_with (go_at_call 47; refine (in_no _ _ _ _ H2.out).mono ?_; rintro e w' ⟨rfl, rfl⟩)
    all_goals (go_ret; refine ⟨retb ?_, by go_grown⟩; have := H2.out; simp [formB, *]; try omega)
set_option maxHeartbeats 2000000 in
theorem form4 (c x t r m q : Int) (w : World) :
    Calls Tryd.prog 34 #[.agg #[.int .i64 4, .int .i64 c, .int .i64 x, .int .i64 t, .int .i64 r, .int .i64 m, .int .i64 q]] w fun e w' => e = .returned (.bool (formB ⟨4, c, x, t, r, m, q⟩)) ∧ Below w.heap.size w w' := by
  by_cases h2 : 1 ≤ q ∧ q ≤ 15
  · obtain ⟨h3, h4⟩ := h2
    cases hr : resB t r with
    | true =>
      have HR := Lib.hid hr
      clear hr
      by_cases h1 : 1 ≤ x
      · skip
        go_enter Tryd.func34, Tryd.ntmps34
        go_wp2_with (first | (go_at_call 47; refine (in_yes _ _ _ _ (by omega)).mono ?_; rintro e w' ⟨rfl, rfl⟩) | (go_at_call 48; refine (resok_at _ _ _ _ HR.out).mono ?_; rintro e w' ⟨rfl, rfl⟩))
        all_goals (go_ret; refine ⟨retb ?_, by go_grown⟩; have := HR.out; simp [formB, *]; try omega)
      · skip
        go_enter Tryd.func34, Tryd.ntmps34
        go_wp2_with (first | (go_at_call 47; refine (in_yes _ _ _ _ (by omega)).mono ?_; rintro e w' ⟨rfl, rfl⟩) | (go_at_call 48; refine (resok_at _ _ _ _ HR.out).mono ?_; rintro e w' ⟨rfl, rfl⟩))
        all_goals (go_ret; refine ⟨retb ?_, by go_grown⟩; have := HR.out; simp [formB, *]; try omega)
    | false =>
      have HR := Lib.hid hr
      clear hr
      go_enter Tryd.func34, Tryd.ntmps34
      go_wp2_with (first | (go_at_call 47; refine (in_yes _ _ _ _ (by omega)).mono ?_; rintro e w' ⟨rfl, rfl⟩) | (go_at_call 48; refine (resok_at _ _ _ _ HR.out).mono ?_; rintro e w' ⟨rfl, rfl⟩))
      all_goals (go_ret; refine ⟨retb ?_, by go_grown⟩; have := HR.out; simp [formB, *]; try omega)
  · have H2 := Lib.hid h2
    clear h2
    go_enter Tryd.func34, Tryd.ntmps34
    go_wp2_with (go_at_call 47; refine (in_no _ _ _ _ H2.out).mono ?_; rintro e w' ⟨rfl, rfl⟩)
    all_goals (go_ret; refine ⟨retb ?_, by go_grown⟩; have := H2.out; simp [formB, *]; try omega)
set_option maxHeartbeats 2000000 in
theorem form0 (k c x t r m q : Int) (w : World) (h1 : k ≠ 1) (h2 : k ≠ 2) (h3 : k ≠ 3) (h4 : k ≠ 4) (h5 : k ≠ 5) (h6 : k ≠ 6) (h7 : k ≠ 7) (h8 : k ≠ 8) :
    Calls Tryd.prog 34 #[.agg #[.int .i64 k, .int .i64 c, .int .i64 x, .int .i64 t, .int .i64 r, .int .i64 m, .int .i64 q]] w fun e w' => e = .returned (.bool (formB ⟨k, c, x, t, r, m, q⟩)) ∧ Below w.heap.size w w' := by
  have e1 : (k == 1) = false := by simpa using h1
  have e2 : (k == 2) = false := by simpa using h2
  have e3 : (k == 3) = false := by simpa using h3
  have e4 : (k == 4) = false := by simpa using h4
  have e5 : (k == 5) = false := by simpa using h5
  have e6 : (k == 6) = false := by simpa using h6
  have e7 : (k == 7) = false := by simpa using h7
  have e8 : (k == 8) = false := by simpa using h8
  have hf : formB ⟨k, c, x, t, r, m, q⟩ = false := by unfold formB; simp [h1, h2, h3, h4, h5, h6, h7, h8]
  have HF := Lib.hid hf
  clear hf
  go_enter Tryd.func34, Tryd.ntmps34
  go_wp2
  go_ret
  exact ⟨by rw [HF.out]; rfl, by go_grown⟩
theorem form_any (e : Ev) (w : World) :
    Calls Tryd.prog 34 #[.agg #[.int .i64 e.kind, .int .i64 e.client, .int .i64 e.tx, .int .i64 e.table, .int .i64 e.row, .int .i64 e.mode, .int .i64 e.code]] w fun r w' => r = .returned (.bool (formB e)) ∧ Below w.heap.size w w' := by
  obtain ⟨k, c, x, t, r, m, q⟩ := e
  show Calls Tryd.prog 34 #[.agg #[.int .i64 k, .int .i64 c, .int .i64 x, .int .i64 t, .int .i64 r, .int .i64 m, .int .i64 q]] w _
  by_cases h1 : k = 1
  · subst h1; exact form1 c x t r m q w
  by_cases h2 : k = 2
  · subst h2; exact form2 c x t r m q w
  by_cases h3 : k = 3
  · subst h3; exact form3 c x t r m q w
  by_cases h4 : k = 4
  · subst h4; exact form4 c x t r m q w
  by_cases h5 : k = 5
  · subst h5; exact form5 c x t r m q w
  by_cases h6 : k = 6
  · subst h6; exact form6 c x t r m q w
  by_cases h7 : k = 7
  · subst h7; exact form7 c x t r m q w
  by_cases h8 : k = 8
  · subst h8; exact form8 c x t r m q w
  exact form0 k c x t r m q w h1 h2 h3 h4 h5 h6 h7 h8
theorem form_is (e : Ev) (w : World) (b : Bool) (h : formB e = b) :
    Calls Tryd.prog 34 #[.agg #[.int .i64 e.kind, .int .i64 e.client, .int .i64 e.tx, .int .i64 e.table, .int .i64 e.row, .int .i64 e.mode, .int .i64 e.code]] w fun r w' => r = .returned (.bool b) ∧ Below w.heap.size w w' := by
  subst h; exact form_any e w
end Go.Proofs.YtggkohkngockoaaDoor

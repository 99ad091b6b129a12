/-
  model.form: are an event's fields those of its kind. No conditions.
-/
import Derived.Test.YtggkohkngockoaaDoorPlayW
import Derived.LoopTactic
import Derived.BigQuiet
namespace Go.Proofs.YtggkohkngockoaaDoor
open Go.ChangeShapes Go.WideShapes Go.ChangeAt Go.RowKit
set_option linter.unusedVariables false
set_option linter.unusedSimpArgs false

theorem in_any (n a b : Int) (w : World) :
    Calls Tryd.prog 47 #[.int .i64 n, .int .i64 a, .int .i64 b] w fun e w' => e = .returned (.bool (decide (a ≤ n) && decide (n ≤ b))) ∧ w = w' := by
  by_cases h1 : a ≤ n
  · by_cases h2 : n ≤ b
    · go_enter Tryd.func47, Tryd.ntmps47
      go_wp2
      go_ret
      exact ⟨retb (by simp [h1, h2]), rfl⟩
    · go_enter Tryd.func47, Tryd.ntmps47
      go_wp2
      go_ret
      exact ⟨retb (by simp [h2]), rfl⟩
  · go_enter Tryd.func47, Tryd.ntmps47
    go_wp2
    go_ret
    exact ⟨retb (by simp; omega), rfl⟩
theorem in_yes (n a b : Int) (w : World) (h : a ≤ n ∧ n ≤ b) : Calls Tryd.prog 47 #[.int .i64 n, .int .i64 a, .int .i64 b] w fun e w' => e = .returned (.bool true) ∧ w = w' := by
  have := in_any n a b w
  rwa [decide_eq_true h.1, decide_eq_true h.2] at this
theorem in_no (n a b : Int) (w : World) (h : ¬ (a ≤ n ∧ n ≤ b)) : Calls Tryd.prog 47 #[.int .i64 n, .int .i64 a, .int .i64 b] w fun e w' => e = .returned (.bool false) ∧ w = w' := by
  have := in_any n a b w
  rwa [show (decide (a ≤ n) && decide (n ≤ b)) = false by simp; omega] at this
set_option maxHeartbeats 1000000 in
theorem resok_any (t r : Int) (w : World) :
    Calls Tryd.prog 48 #[.agg #[.int .i64 t, .int .i64 r]] w fun e w' => e = .returned (.bool (resB t r)) ∧ Below w.heap.size w w' := by
  have hbA : Below w.heap.size w (w.alloc (.cells #[.int .i64 t, .int .i64 r] 40)) := (Below.refl _ _).alloc (Nat.le_refl _) _
  unfold resB
  go_enter Tryd.func48, Tryd.ntmps48
  by_cases h1 : 1 ≤ t
  · by_cases h2 : t ≤ 250
    · by_cases h3 : 0 ≤ r
      · by_cases h4 : r ≤ 250
        · go_wp2
          go_ret
          exact ⟨retb (by simp [h1, h2, h3, h4]), hbA⟩
        · go_wp2
          go_ret
          exact ⟨retb (by simp; omega), hbA⟩
      · go_wp2
        go_ret
        exact ⟨retb (by simp; omega), hbA⟩
    · go_wp2
      go_ret
      exact ⟨retb (by simp; omega), hbA⟩
  · go_wp2
    go_ret
    exact ⟨retb (by simp; omega), hbA⟩

theorem resok_is (t r : Int) (w : World) (b : Bool) (h : resB t r = b) : Calls Tryd.prog 48 #[.agg #[.int .i64 t, .int .i64 r]] w fun e w' => e = .returned (.bool b) ∧ Below w.heap.size w w' := by
  subst h; exact resok_any t r w

set_option maxHeartbeats 1000000 in
theorem form5 (c x t r m q : Int) (w : World) :
    Calls Tryd.prog 34 #[.agg #[.int .i64 5, .int .i64 c, .int .i64 x, .int .i64 t, .int .i64 r, .int .i64 m, .int .i64 q]] w fun e w' => e = .returned (.bool (formB ⟨5, c, x, t, r, m, q⟩)) ∧ Below w.heap.size w w' := by
  by_cases h1 : 1 ≤ x
  · go_enter Tryd.func34, Tryd.ntmps34
    go_wp2
    all_goals (go_ret; refine ⟨retb ?_, by go_grown⟩; simp [formB, *]; try omega)
  · go_enter Tryd.func34, Tryd.ntmps34
    go_wp2
    all_goals (go_ret; refine ⟨retb ?_, by go_grown⟩; simp [formB, *]; try omega)
set_option maxHeartbeats 1000000 in
theorem form6 (c x t r m q : Int) (w : World) :
    Calls Tryd.prog 34 #[.agg #[.int .i64 6, .int .i64 c, .int .i64 x, .int .i64 t, .int .i64 r, .int .i64 m, .int .i64 q]] w fun e w' => e = .returned (.bool (formB ⟨6, c, x, t, r, m, q⟩)) ∧ Below w.heap.size w w' := by
  by_cases h1 : 1 ≤ x
  · go_enter Tryd.func34, Tryd.ntmps34
    go_wp2
    all_goals (go_ret; refine ⟨retb ?_, by go_grown⟩; simp [formB, *]; try omega)
  · go_enter Tryd.func34, Tryd.ntmps34
    go_wp2
    all_goals (go_ret; refine ⟨retb ?_, by go_grown⟩; simp [formB, *]; try omega)
set_option maxHeartbeats 1000000 in
theorem form1 (c x t r m q : Int) (w : World) :
    Calls Tryd.prog 34 #[.agg #[.int .i64 1, .int .i64 c, .int .i64 x, .int .i64 t, .int .i64 r, .int .i64 m, .int .i64 q]] w fun e w' => e = .returned (.bool (formB ⟨1, c, x, t, r, m, q⟩)) ∧ Below w.heap.size w w' := by
  by_cases h2 : 1 ≤ c ∧ c ≤ 8
  · obtain ⟨h3, h4⟩ := h2
    by_cases h1 : 1 ≤ x
    · go_enter Tryd.func34, Tryd.ntmps34
      go_wp2_with (go_at_call 47; refine (in_yes _ _ _ _ (by omega)).mono ?_; rintro e w' ⟨rfl, rfl⟩)
      all_goals (go_ret; refine ⟨retb ?_, by go_grown⟩; simp [formB, *]; try omega)
    · go_enter Tryd.func34, Tryd.ntmps34
      go_wp2_with (go_at_call 47; refine (in_yes _ _ _ _ (by omega)).mono ?_; rintro e w' ⟨rfl, rfl⟩)
      all_goals (go_ret; refine ⟨retb ?_, by go_grown⟩; simp [formB, *]; try omega)
  · have H2 := Lib.hid h2
    clear h2
    go_enter Tryd.func34, Tryd.ntmps34
    go_wp2_with (go_at_call 47; refine (in_no _ _ _ _ H2.out).mono ?_; rintro e w' ⟨rfl, rfl⟩)
    all_goals (go_ret; refine ⟨retb ?_, by go_grown⟩; have := H2.out; simp [formB, *]; try omega)
set_option maxHeartbeats 1000000 in
theorem form8 (c x t r m q : Int) (w : World) :
    Calls Tryd.prog 34 #[.agg #[.int .i64 8, .int .i64 c, .int .i64 x, .int .i64 t, .int .i64 r, .int .i64 m, .int .i64 q]] w fun e w' => e = .returned (.bool (formB ⟨8, c, x, t, r, m, q⟩)) ∧ Below w.heap.size w w' := by
  by_cases h2 : 1 ≤ c ∧ c ≤ 8
  · obtain ⟨h3, h4⟩ := h2
    go_enter Tryd.func34, Tryd.ntmps34
    go_wp2_with (go_at_call 47; refine (in_yes _ _ _ _ (by omega)).mono ?_; rintro e w' ⟨rfl, rfl⟩)
    all_goals (go_ret; refine ⟨retb ?_, by go_grown⟩; simp [formB, *]; try omega)
  · have H2 := Lib.hid h2
    clear h2
    go_enter Tryd.func34, Tryd.ntmps34
    go_wp2_with (go_at_call 47; refine (in_no _ _ _ _ H2.out).mono ?_; rintro e w' ⟨rfl, rfl⟩)
    all_goals (go_ret; refine ⟨retb ?_, by go_grown⟩; have := H2.out; simp [formB, *]; try omega)
set_option maxHeartbeats 1000000 in
theorem form7 (c x t r m q : Int) (w : World) :
    Calls Tryd.prog 34 #[.agg #[.int .i64 7, .int .i64 c, .int .i64 x, .int .i64 t, .int .i64 r, .int .i64 m, .int .i64 q]] w fun e w' => e = .returned (.bool (formB ⟨7, c, x, t, r, m, q⟩)) ∧ Below w.heap.size w w' := by
  by_cases h2 : 1 ≤ q ∧ q ≤ 5
  · obtain ⟨h3, h4⟩ := h2
    by_cases h1 : 1 ≤ x
    · go_enter Tryd.func34, Tryd.ntmps34
      go_wp2_with (go_at_call 47; refine (in_yes _ _ _ _ (by omega)).mono ?_; rintro e w' ⟨rfl, rfl⟩)
      all_goals (go_ret; refine ⟨retb ?_, by go_grown⟩; simp [formB, *]; try omega)
    · go_enter Tryd.func34, Tryd.ntmps34
      go_wp2_with (go_at_call 47; refine (in_yes _ _ _ _ (by omega)).mono ?_; rintro e w' ⟨rfl, rfl⟩)
      all_goals (go_ret; refine ⟨retb ?_, by go_grown⟩; simp [formB, *]; try omega)
  · have H2 := Lib.hid h2
    clear h2
    go_enter Tryd.func34, Tryd.ntmps34
    go_wp2_with (go_at_call 47; refine (in_no _ _ _ _ H2.out).mono ?_; rintro e w' ⟨rfl, rfl⟩)
    all_goals (go_ret; refine ⟨retb ?_, by go_grown⟩; have := H2.out; simp [formB, *]; try omega)
end Go.Proofs.YtggkohkngockoaaDoor

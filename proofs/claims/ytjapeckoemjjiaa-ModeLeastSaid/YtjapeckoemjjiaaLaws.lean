/-
  The walks of ModeTable, ModeLeast, ModeOrder, ModeAbove, ModeBeside: each answers true at every input. No conditions.
-/
import Derived.Test.YtjapeckoemjjiaaModeRef
import Derived.Test.YtjapeckoemjjiaaCode
namespace Go.Proofs.Ytjapeckoemjjiaa
open Go.ChangeShapes Go.WideShapes Go.ChangeAt Go.RowKit
set_option linter.unusedVariables false

theorem mleast_eq (a b m : Int) (w : World) (ha : 0 ≤ a ∧ a ≤ 4) (hb : 0 ≤ b ∧ b ≤ 4) (h : leastI a b = m) :
    Calls Try.prog 15 #[.int .i64 a, .int .i64 b] w fun e w' => e = .returned (.tuple #[.int .i64 m, .nilIface]) ∧ w = w' := by
  subst h; exact mleast_ok a b w ha hb
theorem need_nil (a : Int) (w : World) (h : needE a = 0) :
    Calls Try.prog 16 #[.int .i64 a] w fun e w' => e = .returned (.tuple #[.int .i64 (needI a), .nilIface]) ∧ w = w' := by
  refine (mneed_any a w).mono fun e w' ⟨he, hw⟩ => ⟨?_, hw⟩
  rw [he, h]; rfl
theorem need_err (a : Int) (w : World) (h : needE a ≠ 0) :
    Calls Try.prog 16 #[.int .i64 a] w fun e w' => e = .returned (.tuple #[.int .i64 (needI a), .iface 39 (.int .i64 (needE a))]) ∧ w = w' := by
  refine (mneed_any a w).mono fun e w' ⟨he, hw⟩ => ⟨?_, hw⟩
  rw [he]; unfold errV; rw [if_neg h]
theorem need_4 (w : World) : Calls Try.prog 16 #[.int .i64 4] w fun e w' => e = .returned (.tuple #[.int .i64 2, .nilIface]) ∧ w = w' := need_nil 4 w rfl
theorem need_1 (w : World) : Calls Try.prog 16 #[.int .i64 1] w fun e w' => e = .returned (.tuple #[.int .i64 0, .iface 39 (.int .i64 12)]) ∧ w = w' := need_err 1 w (by decide)
theorem tog_23 (w : World) : Calls Try.prog 11 #[.int .i64 2, .int .i64 3] w fun e w' => e = .returned (.bool false) ∧ w = w' := tog_any 2 3 w
theorem tog_13 (w : World) : Calls Try.prog 11 #[.int .i64 1, .int .i64 3] w fun e w' => e = .returned (.bool true) ∧ w = w' := tog_any 1 3 w

set_option maxHeartbeats 1000000 in
theorem alive_true (w : World) : Calls Try.prog 8 #[] w fun e w' => e = .returned (.bool true) ∧ w = w' := by
  go_enter Try.func8, Try.ntmps8
  go_wp2_with fail
  refine (mleast_eq 2 3 4 _ (by decide) (by decide) (by decide +kernel)).mono ?_
  rintro e w' ⟨rfl, rfl⟩
  go_wp2_with fail
  refine (need_4 _).mono ?_
  rintro e w' ⟨rfl, rfl⟩
  go_wp2_with fail
  refine (need_1 _).mono ?_
  rintro e w' ⟨rfl, rfl⟩
  go_wp2_with fail
  refine (tog_23 _).mono ?_
  rintro e w' ⟨rfl, rfl⟩
  go_wp2_with fail
  refine (tog_13 _).mono ?_
  rintro e w' ⟨rfl, rfl⟩
  go_wp2_with fail
  refine (code_errno 12 _ (by decide) (by decide)).mono ?_
  rintro e w' ⟨rfl, rfl⟩
  go_wp2_with fail
  go_ret
  exact ⟨rfl, rfl⟩

set_option maxHeartbeats 1000000 in
theorem table_true (a b : Int) (w : World) : Calls Try.prog 3 #[.int .i64 a, .int .i64 b] w fun e w' => e = .returned (.bool true) ∧ w = w' := by
  go_enter Try.func3, Try.ntmps3
  go_wp2_with fail
  refine (alive_true _).mono ?_
  rintro e w' ⟨rfl, rfl⟩
  go_wp2_with (first | (go_at_call 9; refine (mok_any _ _).mono ?_; rintro e w' ⟨rfl, rfl⟩) | (go_at_call 10; refine (rok_any _ _).mono ?_; rintro e w' ⟨rfl, rfl⟩) | (go_at_call 11; refine (tog_any _ _ _).mono ?_; rintro e w' ⟨rfl, rfl⟩) | (go_at_call 12; refine (rtog_any _ _ _).mono ?_; rintro e w' ⟨rfl, rfl⟩) | (go_at_call 13; refine (cov_any _ _ _).mono ?_; rintro e w' ⟨rfl, rfl⟩) | (go_at_call 14; refine (rcov_any _ _ _).mono ?_; rintro e w' ⟨rfl, rfl⟩))
  go_ret
  exact ⟨rfl, rfl⟩

theorem need_bad (a d : Int) (w : World) (h : needE a = d) (hd : d ≠ 0) :
    Calls Try.prog 16 #[.int .i64 a] w fun e w' => e = .returned (.tuple #[.int .i64 (needI a), .iface 39 (.int .i64 d)]) ∧ w = w' := by
  subst h; exact need_err a w hd
theorem rneed_eq (a d : Int) (w : World) (h : needE a = d) :
    Calls Try.prog 17 #[.int .i64 a] w fun e w' => e = .returned (.tuple #[.int .i64 (needI a), .int .i64 d]) ∧ w = w' := by
  subst h; exact rneed_any a w

theorem needE_in (a : Int) : needE a = 0 ∨ needE a = 1 ∨ needE a = 12 := by
  unfold needE; repeat' split
  all_goals simp

set_option maxHeartbeats 1000000 in
theorem least_ok_nil (a b : Int) (w : World) (ha : 0 ≤ a ∧ a ≤ 4) (hb : 0 ≤ b ∧ b ≤ 4) (he : needE a = 0) : Calls Try.prog 4 #[.int .i64 a, .int .i64 b] w fun e w' => e = .returned (.bool true) ∧ w = w' := by
  have hA : okB a = true := by simp [okB, ha]
  have hB : okB b = true := by simp [okB, hb]
  have HA := Lib.hid ha
  have HB := Lib.hid hb
  have HE := Lib.hid he
  clear ha hb he
  go_enter Try.func4, Try.ntmps4
  go_wp2_with fail
  refine (alive_true _).mono ?_
  rintro e w' ⟨rfl, rfl⟩
  go_wp2_with fail
  refine (mleast_ok _ _ _ HA.out HB.out).mono ?_
  rintro e w' ⟨rfl, rfl⟩
  go_wp2_with fail
  refine (need_nil _ _ HE.out).mono ?_
  rintro e w' ⟨rfl, rfl⟩
  go_wp2_with fail
  refine (rneed_eq _ _ _ HE.out).mono ?_
  rintro e w' ⟨rfl, rfl⟩
  go_wp2_with fail
  refine (code_nil _).mono ?_
  rintro e w' ⟨rfl, rfl⟩
  go_wp2_with (first | (go_at_call 10; refine (rok_any _ _).mono ?_; rintro e w' ⟨rfl, rfl⟩) | (go_at_call 19; refine (rleast_ok _ _ _ HA.out HB.out).mono ?_; rintro e w' ⟨rfl, rfl⟩))
  go_wp2
  go_ret
  exact ⟨rfl, rfl⟩

set_option maxHeartbeats 1000000 in
theorem least_ok_bad (a b d : Int) (w : World) (ha : 0 ≤ a ∧ a ≤ 4) (hb : 0 ≤ b ∧ b ≤ 4) (he : needE a = d) (hd1 : 1 ≤ d) (hd2 : d ≤ 15) : Calls Try.prog 4 #[.int .i64 a, .int .i64 b] w fun e w' => e = .returned (.bool true) ∧ w = w' := by
  have hA : okB a = true := by simp [okB, ha]
  have hB : okB b = true := by simp [okB, hb]
  have HA := Lib.hid ha
  have HB := Lib.hid hb
  have HE := Lib.hid he
  clear ha hb he
  go_enter Try.func4, Try.ntmps4
  go_wp2_with fail
  refine (alive_true _).mono ?_
  rintro e w' ⟨rfl, rfl⟩
  go_wp2_with fail
  refine (mleast_ok _ _ _ HA.out HB.out).mono ?_
  rintro e w' ⟨rfl, rfl⟩
  go_wp2_with fail
  refine (need_bad _ _ _ HE.out (by omega)).mono ?_
  rintro e w' ⟨rfl, rfl⟩
  go_wp2_with fail
  refine (rneed_eq _ _ _ HE.out).mono ?_
  rintro e w' ⟨rfl, rfl⟩
  go_wp2_with fail
  refine (code_errno _ _ (by omega) (by omega)).mono ?_
  rintro e w' ⟨rfl, rfl⟩
  go_wp2_with (first | (go_at_call 10; refine (rok_any _ _).mono ?_; rintro e w' ⟨rfl, rfl⟩) | (go_at_call 19; refine (rleast_ok _ _ _ HA.out HB.out).mono ?_; rintro e w' ⟨rfl, rfl⟩))
  go_wp2
  go_ret
  exact ⟨rfl, rfl⟩

set_option maxHeartbeats 1000000 in
theorem least_bad_nil (a b : Int) (w : World) (h : ¬ (0 ≤ a ∧ a ≤ 4) ∨ ¬ (0 ≤ b ∧ b ≤ 4)) (he : needE a = 0) : Calls Try.prog 4 #[.int .i64 a, .int .i64 b] w fun e w' => e = .returned (.bool true) ∧ w = w' := by
  have hAB : (!okB a || !okB b) = true := by
    rcases h with h | h
    · simp only [okB, h, decide_false]; rfl
    · simp only [okB, h, decide_false, Bool.not_false, Bool.or_true]
  have H := Lib.hid h
  have HE := Lib.hid he
  clear h he
  go_enter Try.func4, Try.ntmps4
  go_wp2_with fail
  refine (alive_true _).mono ?_
  rintro e w' ⟨rfl, rfl⟩
  go_wp2_with fail
  refine (mleast_bad _ _ _ H.out).mono ?_
  rintro e w' ⟨rfl, rfl⟩
  go_wp2_with fail
  refine (need_nil _ _ HE.out).mono ?_
  rintro e w' ⟨rfl, rfl⟩
  go_wp2_with fail
  refine (rneed_eq _ _ _ HE.out).mono ?_
  rintro e w' ⟨rfl, rfl⟩
  go_wp2_with fail
  refine (code_nil _).mono ?_
  rintro e w' ⟨rfl, rfl⟩
  cases hA : okB a
  all_goals (cases hB : okB b)
  case true.true => simp [hA, hB] at hAB
  all_goals clear hAB
  all_goals
    go_wp2_with (first | (go_at_call 10; refine (rok_any _ _).mono ?_; rintro e w' ⟨rfl, rfl⟩) | (go_at_call 18; refine (code_errno 1 _ (by decide) (by decide)).mono ?_; rintro e w' ⟨rfl, rfl⟩))
    go_ret
    exact ⟨rfl, rfl⟩

set_option maxHeartbeats 1000000 in
theorem least_bad_bad (a b d : Int) (w : World) (h : ¬ (0 ≤ a ∧ a ≤ 4) ∨ ¬ (0 ≤ b ∧ b ≤ 4)) (he : needE a = d) (hd1 : 1 ≤ d) (hd2 : d ≤ 15) : Calls Try.prog 4 #[.int .i64 a, .int .i64 b] w fun e w' => e = .returned (.bool true) ∧ w = w' := by
  have hAB : (!okB a || !okB b) = true := by
    rcases h with h | h
    · simp only [okB, h, decide_false]; rfl
    · simp only [okB, h, decide_false, Bool.not_false, Bool.or_true]
  have H := Lib.hid h
  have HE := Lib.hid he
  clear h he
  go_enter Try.func4, Try.ntmps4
  go_wp2_with fail
  refine (alive_true _).mono ?_
  rintro e w' ⟨rfl, rfl⟩
  go_wp2_with fail
  refine (mleast_bad _ _ _ H.out).mono ?_
  rintro e w' ⟨rfl, rfl⟩
  go_wp2_with fail
  refine (need_bad _ _ _ HE.out (by omega)).mono ?_
  rintro e w' ⟨rfl, rfl⟩
  go_wp2_with fail
  refine (rneed_eq _ _ _ HE.out).mono ?_
  rintro e w' ⟨rfl, rfl⟩
  go_wp2_with fail
  refine (code_errno _ _ (by omega) (by omega)).mono ?_
  rintro e w' ⟨rfl, rfl⟩
  cases hA : okB a
  all_goals (cases hB : okB b)
  case true.true => simp [hA, hB] at hAB
  all_goals clear hAB
  all_goals
    go_wp2_with (first | (go_at_call 10; refine (rok_any _ _).mono ?_; rintro e w' ⟨rfl, rfl⟩) | (go_at_call 18; refine (code_errno 1 _ (by decide) (by decide)).mono ?_; rintro e w' ⟨rfl, rfl⟩))
    go_ret
    exact ⟨rfl, rfl⟩

theorem least_true (a b : Int) (w : World) : Calls Try.prog 4 #[.int .i64 a, .int .i64 b] w fun e w' => e = .returned (.bool true) ∧ w = w' := by
  have hd := needE_in a
  by_cases h : (0 ≤ a ∧ a ≤ 4) ∧ (0 ≤ b ∧ b ≤ 4)
  · by_cases he : needE a = 0
    · exact least_ok_nil a b w h.1 h.2 he
    · exact least_ok_bad a b _ w h.1 h.2 rfl (by omega) (by omega)
  · by_cases he : needE a = 0
    · exact least_bad_nil a b w (by omega) he
    · exact least_bad_bad a b _ w (by omega) rfl (by omega) (by omega)
end Go.Proofs.Ytjapeckoemjjiaa

/-
  mode.Ok, Together, Covers, Least, Need: each gives what the plain functions of ModeF give. No conditions.
-/
import Derived.Test.YtggkohkngockoaaDoorIs
import Derived.Test.YtggkohkngockoaaDoorModeF
import Derived.LoopTactic
import Derived.Lib.Hide
namespace Go.Proofs.YtggkohkngockoaaDoor
open Go.ChangeShapes Go.WideShapes Go.ChangeAt Go.RowKit
set_option linter.unusedVariables false

theorem mok_any (m : Int) (w : World) :
    Calls Tryd.prog 56 #[.int .i64 m] w fun e w' => e = .returned (.bool (okB m)) ∧ w = w' := by
  by_cases h : 0 ≤ m ∧ m ≤ 4
  · have hB : okB m = true := by simp [okB, h]
    rw [hB]; clear hB
    obtain ⟨h0, h4⟩ := h
    go_enter Tryd.func56, Tryd.ntmps56
    go_wp2
    go_ret
    exact ⟨by simp, rfl⟩
  · have hB : okB m = false := by simp only [okB, h, decide_false]
    rw [hB]; clear hB
    by_cases h0 : 0 ≤ m
    · have h4 : ¬ m ≤ 4 := by omega
      clear h
      go_enter Tryd.func56, Tryd.ntmps56
      go_wp2
      go_ret
      exact ⟨by simp, rfl⟩
    · clear h
      go_enter Tryd.func56, Tryd.ntmps56
      go_wp2
      go_ret
      exact ⟨by simp, rfl⟩

theorem retb {a b : Bool} (h : a = b) : Ending.returned (.bool a) = .returned (.bool b) := by rw [h]

set_option maxHeartbeats 1000000 in
theorem below_in (a : Int) (w : World) (ha : 0 ≤ a ∧ a ≤ 4) :
    Calls Tryd.prog 57 #[.int .i64 a] w fun e w' => e = .returned (.int .i64 (if a = 4 then 31 else if a = 3 then 11 else if a = 2 then 7 else if a = 1 then 3 else 1)) ∧ w = w' := by
  obtain rfl | rfl | rfl | rfl | rfl : a = 0 ∨ a = 1 ∨ a = 2 ∨ a = 3 ∨ a = 4 := by omega
  all_goals
    clear ha
    go_enter Tryd.func57, Tryd.ntmps57
    go_wp2
    go_ret
    exact ⟨rfl, rfl⟩
set_option maxHeartbeats 1000000 in
theorem below_out (a : Int) (w : World) (ha : ¬ (0 ≤ a ∧ a ≤ 4)) :
    Calls Tryd.prog 57 #[.int .i64 a] w fun e w' => e = .returned (.int .i64 0) ∧ w = w' := by
  have h0 : (a == 0) = false := by simp; omega
  have h1 : (a == 1) = false := by simp; omega
  have h2 : (a == 2) = false := by simp; omega
  have h3 : (a == 3) = false := by simp; omega
  have h4 : (a == 4) = false := by simp; omega
  clear ha
  go_enter Tryd.func57, Tryd.ntmps57
  go_wp2
  go_ret
  exact ⟨rfl, rfl⟩
set_option maxHeartbeats 1000000 in
theorem beside_in (a : Int) (w : World) (ha : 0 ≤ a ∧ a ≤ 4) :
    Calls Tryd.prog 59 #[.int .i64 a] w fun e w' => e = .returned (.int .i64 (if a = 4 then 1 else if a = 3 then 11 else if a = 2 then 7 else if a = 1 then 15 else 31)) ∧ w = w' := by
  obtain rfl | rfl | rfl | rfl | rfl : a = 0 ∨ a = 1 ∨ a = 2 ∨ a = 3 ∨ a = 4 := by omega
  all_goals
    clear ha
    go_enter Tryd.func59, Tryd.ntmps59
    go_wp2
    go_ret
    exact ⟨rfl, rfl⟩
set_option maxHeartbeats 1000000 in
theorem beside_out (a : Int) (w : World) (ha : ¬ (0 ≤ a ∧ a ≤ 4)) :
    Calls Tryd.prog 59 #[.int .i64 a] w fun e w' => e = .returned (.int .i64 0) ∧ w = w' := by
  have h0 : (a == 0) = false := by simp; omega
  have h1 : (a == 1) = false := by simp; omega
  have h2 : (a == 2) = false := by simp; omega
  have h3 : (a == 3) = false := by simp; omega
  have h4 : (a == 4) = false := by simp; omega
  clear ha
  go_enter Tryd.func59, Tryd.ntmps59
  go_wp2
  go_ret
  exact ⟨rfl, rfl⟩

set_option maxHeartbeats 4000000 in
theorem cov_in (a b : Int) (w : World) (ha : 0 ≤ a ∧ a ≤ 4) (hb : 0 ≤ b ∧ b ≤ 4) :
    Calls Tryd.prog 54 #[.int .i64 a, .int .i64 b] w fun e w' => e = .returned (.bool (covB a b)) ∧ w = w' := by
  obtain rfl | rfl | rfl | rfl | rfl : b = 0 ∨ b = 1 ∨ b = 2 ∨ b = 3 ∨ b = 4 := by omega
  all_goals
    clear hb
    obtain rfl | rfl | rfl | rfl | rfl : a = 0 ∨ a = 1 ∨ a = 2 ∨ a = 3 ∨ a = 4 := by omega
    all_goals
      clear ha
      go_enter Tryd.func54, Tryd.ntmps54
      go_wp2_with (first | (go_at_call 56; refine (mok_any _ _).mono ?_; rintro e w' ⟨rfl, rfl⟩) | (go_at_call 57; refine (below_in _ _ (by decide)).mono ?_; rintro e w' ⟨rfl, rfl⟩))
      go_ret
      exact ⟨retb (by decide +kernel), rfl⟩

set_option maxHeartbeats 4000000 in
theorem cov_left (a b : Int) (w : World) (ha : ¬ (0 ≤ a ∧ a ≤ 4)) (hb : 0 ≤ b ∧ b ≤ 4) :
    Calls Tryd.prog 54 #[.int .i64 a, .int .i64 b] w fun e w' => e = .returned (.bool false) ∧ w = w' := by
  obtain rfl | rfl | rfl | rfl | rfl : b = 0 ∨ b = 1 ∨ b = 2 ∨ b = 3 ∨ b = 4 := by omega
  all_goals
    clear hb
    have H := Lib.hid ha
    clear ha
    go_enter Tryd.func54, Tryd.ntmps54
    go_wp2_with (first | (go_at_call 56; refine (mok_any _ _).mono ?_; rintro e w' ⟨rfl, rfl⟩) | (go_at_call 57; refine (below_out _ _ H.out).mono ?_; rintro e w' ⟨rfl, rfl⟩))
    go_ret
    exact ⟨retb (by decide +kernel), rfl⟩

theorem cov_right (a b : Int) (w : World) (hb : ¬ (0 ≤ b ∧ b ≤ 4)) :
    Calls Tryd.prog 54 #[.int .i64 a, .int .i64 b] w fun e w' => e = .returned (.bool false) ∧ w = w' := by
  have hB : okB b = false := by simp only [okB, hb, decide_false]
  clear hb
  go_enter Tryd.func54, Tryd.ntmps54
  go_wp2_with (go_at_call 56; refine (mok_any _ _).mono ?_; rintro e w' ⟨rfl, rfl⟩)
  go_ret
  exact ⟨rfl, rfl⟩

theorem cov_any (a b : Int) (w : World) :
    Calls Tryd.prog 54 #[.int .i64 a, .int .i64 b] w fun e w' => e = .returned (.bool (covB a b)) ∧ w = w' := by
  by_cases hb : 0 ≤ b ∧ b ≤ 4
  · by_cases ha : 0 ≤ a ∧ a ≤ 4
    · exact cov_in a b w ha hb
    · rw [covB_out (by omega)]; exact cov_left a b w ha hb
  · rw [covB_out (by omega)]; exact cov_right a b w hb

set_option maxHeartbeats 4000000 in
theorem tog_in (a b : Int) (w : World) (ha : 0 ≤ a ∧ a ≤ 4) (hb : 0 ≤ b ∧ b ≤ 4) :
    Calls Tryd.prog 58 #[.int .i64 a, .int .i64 b] w fun e w' => e = .returned (.bool (togB a b)) ∧ w = w' := by
  obtain rfl | rfl | rfl | rfl | rfl : b = 0 ∨ b = 1 ∨ b = 2 ∨ b = 3 ∨ b = 4 := by omega
  all_goals
    clear hb
    obtain rfl | rfl | rfl | rfl | rfl : a = 0 ∨ a = 1 ∨ a = 2 ∨ a = 3 ∨ a = 4 := by omega
    all_goals
      clear ha
      go_enter Tryd.func58, Tryd.ntmps58
      go_wp2_with (first | (go_at_call 56; refine (mok_any _ _).mono ?_; rintro e w' ⟨rfl, rfl⟩) | (go_at_call 59; refine (beside_in _ _ (by decide)).mono ?_; rintro e w' ⟨rfl, rfl⟩))
      go_ret
      exact ⟨retb (by decide +kernel), rfl⟩

set_option maxHeartbeats 4000000 in
theorem tog_left (a b : Int) (w : World) (ha : ¬ (0 ≤ a ∧ a ≤ 4)) (hb : 0 ≤ b ∧ b ≤ 4) :
    Calls Tryd.prog 58 #[.int .i64 a, .int .i64 b] w fun e w' => e = .returned (.bool false) ∧ w = w' := by
  obtain rfl | rfl | rfl | rfl | rfl : b = 0 ∨ b = 1 ∨ b = 2 ∨ b = 3 ∨ b = 4 := by omega
  all_goals
    clear hb
    have H := Lib.hid ha
    clear ha
    go_enter Tryd.func58, Tryd.ntmps58
    go_wp2_with (first | (go_at_call 56; refine (mok_any _ _).mono ?_; rintro e w' ⟨rfl, rfl⟩) | (go_at_call 59; refine (beside_out _ _ H.out).mono ?_; rintro e w' ⟨rfl, rfl⟩))
    go_ret
    exact ⟨retb (by decide +kernel), rfl⟩

theorem tog_right (a b : Int) (w : World) (hb : ¬ (0 ≤ b ∧ b ≤ 4)) :
    Calls Tryd.prog 58 #[.int .i64 a, .int .i64 b] w fun e w' => e = .returned (.bool false) ∧ w = w' := by
  have hB : okB b = false := by simp only [okB, hb, decide_false]
  clear hb
  go_enter Tryd.func58, Tryd.ntmps58
  go_wp2_with (go_at_call 56; refine (mok_any _ _).mono ?_; rintro e w' ⟨rfl, rfl⟩)
  go_ret
  exact ⟨rfl, rfl⟩

theorem tog_any (a b : Int) (w : World) :
    Calls Tryd.prog 58 #[.int .i64 a, .int .i64 b] w fun e w' => e = .returned (.bool (togB a b)) ∧ w = w' := by
  by_cases hb : 0 ≤ b ∧ b ≤ 4
  · by_cases ha : 0 ≤ a ∧ a ≤ 4
    · exact tog_in a b w ha hb
    · rw [togB_out (by omega)]; exact tog_left a b w ha hb
  · rw [togB_out (by omega)]; exact tog_right a b w hb

def errV (k : Int) : Value := if k = 0 then .nilIface else .iface 51 (.int .i64 k)

theorem mneed_any (m : Int) (w : World) :
    Calls Tryd.prog 53 #[.int .i64 m] w fun e w' => e = .returned (.tuple #[.int .i64 (needI m), errV (needE m)]) ∧ w = w' := by
  by_cases h : 0 ≤ m ∧ m ≤ 4
  · obtain rfl | rfl | rfl | rfl | rfl : m = 0 ∨ m = 1 ∨ m = 2 ∨ m = 3 ∨ m = 4 := by omega
    all_goals
      clear h
      go_enter Tryd.func53, Tryd.ntmps53
      go_wp2
      go_ret2
      exact ⟨rfl, rfl⟩
  · have e1 : needI m = 0 := by unfold needI; rw [if_neg (by omega), if_neg (by omega)]
    have e2 : needE m = 1 := by unfold needE; rw [if_neg (by omega), if_neg h]
    rw [e1, e2]; clear e1 e2
    have h0 : (m == 0) = false := by simp; omega
    have h1 : (m == 1) = false := by simp; omega
    have h2 : (m == 2) = false := by simp; omega
    have h3 : (m == 3) = false := by simp; omega
    have h4 : (m == 4) = false := by simp; omega
    clear h
    go_enter Tryd.func53, Tryd.ntmps53
    go_wp2
    go_ret2
    exact ⟨rfl, rfl⟩

set_option maxHeartbeats 1000000 in
theorem mleast_ok (a b : Int) (w : World) (ha : 0 ≤ a ∧ a ≤ 4) (hb : 0 ≤ b ∧ b ≤ 4) :
    Calls Tryd.prog 52 #[.int .i64 a, .int .i64 b] w fun e w' => e = .returned (.tuple #[.int .i64 (leastI a b), .nilIface]) ∧ w = w' := by
  have hA : okB a = true := by simp [okB, ha]
  have hB : okB b = true := by simp [okB, hb]
  have HA := Lib.hid ha
  have HB := Lib.hid hb
  have HI := Lib.hid (leastI_in a b)
  clear ha hb
  go_enter Tryd.func52, Tryd.ntmps52
  go_wp2_with (go_at_call 56; refine (mok_any _ _).mono ?_; rintro e w' ⟨rfl, rfl⟩)
  clear hA hB
  go_loop [6] (fun v => ∃ m : Int, 0 ≤ m ∧ m ≤ 4 ∧ m ≤ leastI a b ∧ v = .int .i64 m) (fun v => (4 - intOf v).toNat)
  case atStart => exact ⟨0, by omega, by omega, HI.out.1, rfl⟩
  case round =>
    obtain ⟨m, hm0, hm4, hl, rfl⟩ := hrel
    have hi := HI.out.2
    by_cases h4 : m < 4
    · obtain ⟨hy, hn⟩ := least_step a b m HA.out HB.out ⟨hm0, hm4⟩ hl
      have HY := Lib.hid hy
      have HN := Lib.hid hn
      clear hy hn
      cases hc : covB m a
      · have hnx := HN.out (.inl hc)
        go_wp2_with (go_at_call 54; refine (cov_any _ _ _).mono ?_; rintro e w' ⟨rfl, rfl⟩)
        go_round
        case rel => exact ⟨m + 1, by omega, by omega, hnx, rfl⟩
        case measure => simp [intOf]; omega
      · cases hd : covB m b
        · have hnx := HN.out (.inr hd)
          go_wp2_with (go_at_call 54; refine (cov_any _ _ _).mono ?_; rintro e w' ⟨rfl, rfl⟩)
          go_round
          case rel => exact ⟨m + 1, by omega, by omega, hnx, rfl⟩
          case measure => simp [intOf]; omega
        · have HE := Lib.hid (HY.out hc hd)
          go_wp2_with (go_at_call 54; refine (cov_any _ _ _).mono ?_; rintro e w' ⟨rfl, rfl⟩)
          go_ret2
          exact ⟨by rw [HE.out]; rfl, rfl⟩
    · have HE : Hid (leastI a b = 4) := by show leastI a b = 4; omega
      go_wp2
      go_ret2
      exact ⟨by rw [HE.out]; rfl, rfl⟩

theorem mleast_bad (a b : Int) (w : World) (h : ¬ (0 ≤ a ∧ a ≤ 4) ∨ ¬ (0 ≤ b ∧ b ≤ 4)) :
    Calls Tryd.prog 52 #[.int .i64 a, .int .i64 b] w fun e w' => e = .returned (.tuple #[.int .i64 0, .iface 51 (.int .i64 1)]) ∧ w = w' := by
  by_cases ha : 0 ≤ a ∧ a ≤ 4
  · have hA : okB a = true := by simp [okB, ha]
    have hB : okB b = false := by simp only [okB, (h.resolve_left (by simpa using ha)), decide_false]
    clear h ha
    go_enter Tryd.func52, Tryd.ntmps52
    go_wp2_with (go_at_call 56; refine (mok_any _ _).mono ?_; rintro e w' ⟨rfl, rfl⟩)
    go_ret2
    exact ⟨rfl, rfl⟩
  · have hA : okB a = false := by simp only [okB, ha, decide_false]
    clear h ha
    go_enter Tryd.func52, Tryd.ntmps52
    go_wp2_with (go_at_call 56; refine (mok_any _ _).mono ?_; rintro e w' ⟨rfl, rfl⟩)
    go_ret2
    exact ⟨rfl, rfl⟩
end Go.Proofs.YtggkohkngockoaaDoor

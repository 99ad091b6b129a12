/-
  The reference of chapter 01: Ok, Together, Covers, Least, Need: each gives what the plain functions of ModeF give. No conditions.
-/
import Derived.Test.YtggkohkngockoaaDoorMode
namespace Go.Proofs.YtggkohkngockoaaDoor
open Go.ChangeShapes Go.WideShapes Go.ChangeAt Go.RowKit
set_option linter.unusedVariables false

theorem rok_any (m : Int) (w : World) :
    Calls Tryd.prog 21 #[.int .i64 m] w fun e w' => e = .returned (.bool (okB m)) ∧ w = w' := by
  by_cases h : 0 ≤ m ∧ m ≤ 4
  · have hB : okB m = true := by simp [okB, h]
    rw [hB]; clear hB
    obtain ⟨h0, h4⟩ := h
    go_enter Tryd.func21, Tryd.ntmps21
    go_wp2
    go_ret
    exact ⟨by simp, rfl⟩
  · have hB : okB m = false := by simp only [okB, h, decide_false]
    rw [hB]; clear hB
    by_cases h0 : 0 ≤ m
    · have h4 : ¬ m ≤ 4 := by omega
      clear h
      go_enter Tryd.func21, Tryd.ntmps21
      go_wp2
      go_ret
      exact ⟨by simp, rfl⟩
    · clear h
      go_enter Tryd.func21, Tryd.ntmps21
      go_wp2
      go_ret
      exact ⟨by simp, rfl⟩

set_option maxHeartbeats 4000000 in
theorem rcov_in (a b : Int) (w : World) (ha : 0 ≤ a ∧ a ≤ 4) (hb : 0 ≤ b ∧ b ≤ 4) :
    Calls Tryd.prog 45 #[.int .i64 a, .int .i64 b] w fun e w' => e = .returned (.bool (covB a b)) ∧ w = w' := by
  obtain rfl | rfl | rfl | rfl | rfl : b = 0 ∨ b = 1 ∨ b = 2 ∨ b = 3 ∨ b = 4 := by omega
  all_goals
    clear hb
    obtain rfl | rfl | rfl | rfl | rfl : a = 0 ∨ a = 1 ∨ a = 2 ∨ a = 3 ∨ a = 4 := by omega
    all_goals
      clear ha
      go_enter Tryd.func45, Tryd.ntmps45
      go_wp2_with (go_at_call 21; refine (rok_any _ _).mono ?_; rintro e w' ⟨rfl, rfl⟩)
      go_ret
      exact ⟨retb (by decide +kernel), rfl⟩

theorem rcov_bad (a b : Int) (w : World) (h : ¬ (0 ≤ a ∧ a ≤ 4) ∨ ¬ (0 ≤ b ∧ b ≤ 4)) :
    Calls Tryd.prog 45 #[.int .i64 a, .int .i64 b] w fun e w' => e = .returned (.bool false) ∧ w = w' := by
  by_cases ha : 0 ≤ a ∧ a ≤ 4
  · have hA : okB a = true := by simp [okB, ha]
    have hB : okB b = false := by simp only [okB, (h.resolve_left (by simpa using ha)), decide_false]
    clear h ha
    go_enter Tryd.func45, Tryd.ntmps45
    go_wp2_with (go_at_call 21; refine (rok_any _ _).mono ?_; rintro e w' ⟨rfl, rfl⟩)
    go_ret
    exact ⟨rfl, rfl⟩
  · have hA : okB a = false := by simp only [okB, ha, decide_false]
    clear h ha
    go_enter Tryd.func45, Tryd.ntmps45
    go_wp2_with (go_at_call 21; refine (rok_any _ _).mono ?_; rintro e w' ⟨rfl, rfl⟩)
    go_ret
    exact ⟨rfl, rfl⟩

theorem rcov_any (a b : Int) (w : World) :
    Calls Tryd.prog 45 #[.int .i64 a, .int .i64 b] w fun e w' => e = .returned (.bool (covB a b)) ∧ w = w' := by
  by_cases h : 0 ≤ a ∧ a ≤ 4 ∧ 0 ≤ b ∧ b ≤ 4
  · exact rcov_in a b w (by omega) (by omega)
  · rw [covB_out h]; exact rcov_bad a b w (by omega)

set_option maxHeartbeats 4000000 in
theorem rtog_in (a b : Int) (w : World) (ha : 0 ≤ a ∧ a ≤ 4) (hb : 0 ≤ b ∧ b ≤ 4) :
    Calls Tryd.prog 16 #[.int .i64 a, .int .i64 b] w fun e w' => e = .returned (.bool (togB a b)) ∧ w = w' := by
  obtain rfl | rfl | rfl | rfl | rfl : b = 0 ∨ b = 1 ∨ b = 2 ∨ b = 3 ∨ b = 4 := by omega
  all_goals
    clear hb
    obtain rfl | rfl | rfl | rfl | rfl : a = 0 ∨ a = 1 ∨ a = 2 ∨ a = 3 ∨ a = 4 := by omega
    all_goals
      clear ha
      go_enter Tryd.func16, Tryd.ntmps16
      go_wp2_with (go_at_call 21; refine (rok_any _ _).mono ?_; rintro e w' ⟨rfl, rfl⟩)
      go_ret
      exact ⟨retb (by decide +kernel), rfl⟩

theorem rtog_bad (a b : Int) (w : World) (h : ¬ (0 ≤ a ∧ a ≤ 4) ∨ ¬ (0 ≤ b ∧ b ≤ 4)) :
    Calls Tryd.prog 16 #[.int .i64 a, .int .i64 b] w fun e w' => e = .returned (.bool false) ∧ w = w' := by
  by_cases ha : 0 ≤ a ∧ a ≤ 4
  · have hA : okB a = true := by simp [okB, ha]
    have hB : okB b = false := by simp only [okB, (h.resolve_left (by simpa using ha)), decide_false]
    clear h ha
    go_enter Tryd.func16, Tryd.ntmps16
    go_wp2_with (go_at_call 21; refine (rok_any _ _).mono ?_; rintro e w' ⟨rfl, rfl⟩)
    go_ret
    exact ⟨rfl, rfl⟩
  · have hA : okB a = false := by simp only [okB, ha, decide_false]
    clear h ha
    go_enter Tryd.func16, Tryd.ntmps16
    go_wp2_with (go_at_call 21; refine (rok_any _ _).mono ?_; rintro e w' ⟨rfl, rfl⟩)
    go_ret
    exact ⟨rfl, rfl⟩

theorem rtog_any (a b : Int) (w : World) :
    Calls Tryd.prog 16 #[.int .i64 a, .int .i64 b] w fun e w' => e = .returned (.bool (togB a b)) ∧ w = w' := by
  by_cases h : 0 ≤ a ∧ a ≤ 4 ∧ 0 ≤ b ∧ b ≤ 4
  · exact rtog_in a b w (by omega) (by omega)
  · rw [togB_out h]; exact rtog_bad a b w (by omega)

theorem rneed_any (m : Int) (w : World) :
    Calls Tryd.prog 44 #[.int .i64 m] w fun e w' => e = .returned (.tuple #[.int .i64 (needI m), .int .i64 (needE m)]) ∧ w = w' := by
  by_cases h : 0 ≤ m ∧ m ≤ 4
  · obtain rfl | rfl | rfl | rfl | rfl : m = 0 ∨ m = 1 ∨ m = 2 ∨ m = 3 ∨ m = 4 := by omega
    all_goals
      clear h
      go_enter Tryd.func44, Tryd.ntmps44
      go_wp2_with (go_at_call 21; refine (rok_any _ _).mono ?_; rintro e w' ⟨rfl, rfl⟩)
      go_ret2
      exact ⟨rfl, rfl⟩
  · have e1 : needI m = 0 := by unfold needI; rw [if_neg (by omega), if_neg (by omega)]
    have e2 : needE m = 1 := by unfold needE; rw [if_neg (by omega), if_neg h]
    have hA : okB m = false := by simp only [okB, h, decide_false]
    rw [e1, e2]; clear e1 e2 h
    go_enter Tryd.func44, Tryd.ntmps44
    go_wp2_with (go_at_call 21; refine (rok_any _ _).mono ?_; rintro e w' ⟨rfl, rfl⟩)
    go_ret2
    exact ⟨rfl, rfl⟩

theorem upB_le (a b m : Int) (n k : Nat) (h : n ≤ k) (hk : upB a b m k = true) : upB a b m n = true := by
  induction k with
  | zero => obtain rfl : n = 0 := by omega
            rfl
  | succ k ih =>
    rcases Nat.lt_or_ge n (k + 1) with h1 | h1
    · refine ih (by omega) ?_
      simp only [upB, Bool.and_eq_true] at hk; exact hk.1
    · obtain rfl : n = k + 1 := by omega
      exact hk

set_option maxHeartbeats 2000000 in
theorem rleast_ok (a b : Int) (w : World) (ha : 0 ≤ a ∧ a ≤ 4) (hb : 0 ≤ b ∧ b ≤ 4) :
    Calls Tryd.prog 42 #[.int .i64 a, .int .i64 b] w fun e w' => e = .returned (.int .i64 (leastI a b)) ∧ w = w' := by
  have HA := Lib.hid ha
  have HB := Lib.hid hb
  have HI := Lib.hid (leastI_in a b)
  clear ha hb
  go_enter Tryd.func42, Tryd.ntmps42
  go_wp2
  go_loop [5] (fun v => ∃ m : Int, 0 ≤ m ∧ m ≤ 4 ∧ m ≤ leastI a b ∧ v = .int .i64 m) (fun v => (4 - intOf v).toNat)
  case atStart => exact ⟨0, by omega, by omega, HI.out.1, rfl⟩
  case round =>
    obtain ⟨m, hm0, hm4, hl, rfl⟩ := hrel
    have hi := HI.out.2
    obtain ⟨hy, hn⟩ := least_step a b m HA.out HB.out ⟨hm0, hm4⟩ hl
    have HY := Lib.hid hy
    have HN := Lib.hid hn
    clear hy hn
    cases hc : covB m a
    · have hnx := HN.out (.inl hc)
      go_wp2_with (go_at_call 45; refine (rcov_any _ _ _).mono ?_; rintro e w' ⟨rfl, rfl⟩)
      go_round
      case rel => exact ⟨m + 1, by omega, by omega, hnx, rfl⟩
      case measure => simp [intOf]; omega
    · cases hd : covB m b
      · have hnx := HN.out (.inr hd)
        go_wp2_with (go_at_call 45; refine (rcov_any _ _ _).mono ?_; rintro e w' ⟨rfl, rfl⟩)
        go_round
        case rel => exact ⟨m + 1, by omega, by omega, hnx, rfl⟩
        case measure => simp [intOf]; omega
      · have he := HY.out hc hd
        have HU := Lib.hid (least_up a b m HA.out HB.out he.symm)
        have HE := Lib.hid he
        clear he
        go_wp2_with (go_at_call 45; refine (rcov_any _ _ _).mono ?_; rintro e w' ⟨rfl, rfl⟩)
        go_loop [6, 7] (fun l v => ∃ n : Nat, n ≤ 5 ∧ v = .int .i64 n ∧ l = .bool true) (fun _ v => (5 - intOf v).toNat)
        case atStart => exact ⟨0, by omega, rfl, rfl⟩
        case round =>
          obtain ⟨n, hn5, rfl, rfl⟩ := hrel
          by_cases h5 : n < 5
          · have h5' : (n : Int) < 5 := by omega
            have hup := upB_le a b m (n + 1) 5 (by omega) HU.out
            simp only [upB, Bool.and_eq_true, Bool.not_eq_true', Bool.and_eq_false_iff] at hup
            have HP := Lib.hid hup.2
            clear hup
            have hb1 : (covB n a && covB n b && !covB n m) = false := by
              rcases HP.out with (h | h) | h
              · simp [h]
              · simp [h]
              · simp only [Bool.not_eq_false'] at h; simp [h]
            cases c1 : covB n a
            · go_wp2_with (go_at_call 45; refine (rcov_any _ _ _).mono ?_; rintro e w' ⟨rfl, rfl⟩)
              go_round
              case rel => exact ⟨n + 1, by omega, by go_num, rfl⟩
              case measure => simp [intOf]; omega
            · cases c2 : covB n b
              · go_wp2_with (go_at_call 45; refine (rcov_any _ _ _).mono ?_; rintro e w' ⟨rfl, rfl⟩)
                go_round
                case rel => exact ⟨n + 1, by omega, by go_num, rfl⟩
                case measure => simp [intOf]; omega
              · have c3 : covB n m = true := by simpa [c1, c2] using hb1
                clear hb1
                go_wp2_with (go_at_call 45; refine (rcov_any _ _ _).mono ?_; rintro e w' ⟨rfl, rfl⟩)
                go_round
                case rel => exact ⟨n + 1, by omega, by go_num, rfl⟩
                case measure => simp [intOf]; omega
          · have h5' : ¬ (n : Int) < 5 := by omega
            go_wp2
            go_ret
            exact ⟨by rw [HE.out]; rfl, rfl⟩
end Go.Proofs.YtggkohkngockoaaDoor

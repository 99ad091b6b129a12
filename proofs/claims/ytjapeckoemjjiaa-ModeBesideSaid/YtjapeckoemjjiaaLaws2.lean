/-
  The walks of ModeOrder, ModeAbove, ModeBeside: each answers true at every input. No conditions.
-/
import Derived.Test.YtjapeckoemjjiaaLaws
import Derived.Deep.Light
namespace Go.Proofs.Ytjapeckoemjjiaa
open Go.ChangeShapes Go.WideShapes Go.ChangeAt Go.RowKit
set_option linter.unusedVariables false

theorem order_facts (x y z : Int) (hx : 0 ≤ x ∧ x ≤ 4) (hy : 0 ≤ y ∧ y ≤ 4) (hz : 0 ≤ z ∧ z ≤ 4) :
    covB x x = true ∧ (x ≠ y → covB x y = true → covB y x = false) ∧ (covB x y = true → covB y z = true → covB x z = true) := by
  have h := all3 (p := fun x y z => covB x x && (decide (x = y) || !(covB x y && covB y x)) && (!(covB x y && covB y z) || covB x z)) (by decide +kernel) x y z hx hy hz
  simp only [Bool.and_eq_true, Bool.or_eq_true, decide_eq_true_eq, Bool.not_eq_true', Bool.and_eq_false_iff] at h
  obtain ⟨⟨h1, h2⟩, h3⟩ := h
  refine ⟨h1, fun hne hxy => ?_, fun a b => ?_⟩
  · rcases h2 with h2 | h2 | h2
    · exact absurd h2 hne
    · rw [h2] at hxy; cases hxy
    · exact h2
  · rcases h3 with (h3 | h3) | h3
    · rw [h3] at a; cases a
    · rw [h3] at b; cases b
    · exact h3

set_option maxHeartbeats 2000000 in
theorem order_at (a b c x y z : Int) (ha0 : 0 ≤ a) (ha1 : a ≤ 255) (hb0 : 0 ≤ b) (hb1 : b ≤ 255) (hc0 : 0 ≤ c) (hc1 : c ≤ 255)
    (ea : a % 5 = x) (eb : b % 5 = y) (ec : c % 5 = z) (w : World) :
    Calls Try.prog 5 #[.int .u8 a, .int .u8 b, .int .u8 c] w fun e w' => e = .returned (.bool true) ∧ w = w' := by
  obtain ⟨f1, f2, f3⟩ := order_facts x y z (by omega) (by omega) (by omega)
  have F2 := Lib.hid f2
  have F3 := Lib.hid f3
  clear f2 f3
  go_enter Try.func5, Try.ntmps5
  go_wp2_with fail
  refine (alive_true _).mono ?_
  rintro e w' ⟨rfl, rfl⟩
  go_wp2_with (go_at_call 13; refine (cov_any _ _ _).mono ?_; rintro e w' ⟨rfl, rfl⟩)
  all_goals
    go_ret
    refine ⟨retb ?_, rfl⟩
    go_light
    have g2 := F2.out
    have g3 := F3.out
    clear F2 F3
    first | rfl | (simp_all; done)

theorem beside_facts (x y z : Int) (hx : 0 ≤ x ∧ x ≤ 4) (hy : 0 ≤ y ∧ y ≤ 4) (hz : 0 ≤ z ∧ z ≤ 4) :
    togB x y = togB y x ∧ togB x 0 = true ∧ (togB x y = true → covB y z = true → togB x z = true) := by
  have h := all3 (p := fun x y z => (togB x y == togB y x) && togB x 0 && (!(togB x y && covB y z) || togB x z)) (by decide +kernel) x y z hx hy hz
  simp only [Bool.and_eq_true, Bool.or_eq_true, beq_iff_eq, Bool.not_eq_true', Bool.and_eq_false_iff] at h
  obtain ⟨⟨h1, h2⟩, h3⟩ := h
  refine ⟨h1, h2, fun a b => ?_⟩
  rcases h3 with (h3 | h3) | h3
  · rw [h3] at a; cases a
  · rw [h3] at b; cases b
  · exact h3

set_option maxHeartbeats 2000000 in
theorem beside_at (a b c x y z : Int) (ha0 : 0 ≤ a) (ha1 : a ≤ 255) (hb0 : 0 ≤ b) (hb1 : b ≤ 255) (hc0 : 0 ≤ c) (hc1 : c ≤ 255)
    (ea : a % 5 = x) (eb : b % 5 = y) (ec : c % 5 = z) (w : World) :
    Calls Try.prog 7 #[.int .u8 a, .int .u8 b, .int .u8 c] w fun e w' => e = .returned (.bool true) ∧ w = w' := by
  obtain ⟨f1, f2, f3⟩ := beside_facts x y z (by omega) (by omega) (by omega)
  have F1 := Lib.hid f1
  have F3 := Lib.hid f3
  clear f1 f3
  go_enter Try.func7, Try.ntmps7
  go_wp2_with fail
  refine (alive_true _).mono ?_
  rintro e w' ⟨rfl, rfl⟩
  go_wp2_with (first | (go_at_call 13; refine (cov_any _ _ _).mono ?_; rintro e w' ⟨rfl, rfl⟩) | (go_at_call 11; refine (tog_any _ _ _).mono ?_; rintro e w' ⟨rfl, rfl⟩))
  all_goals
    go_ret
    refine ⟨retb ?_, rfl⟩
    go_light
    have g1 := F1.out
    have g3 := F3.out
    clear F1 F3
    first | rfl | (simp_all; done)

theorem above_facts (x y z : Int) (hx : 0 ≤ x ∧ x ≤ 4) (hy : 0 ≤ y ∧ y ≤ 4) (hz : 0 ≤ z ∧ z ≤ 4) :
    leastI y x = leastI x y ∧ leastI x (leastI y z) = leastI (leastI x y) z ∧ covB (leastI x y) x = true ∧ covB (leastI x y) y = true ∧ (covB z x = true → covB z y = true → covB z (leastI x y) = true) := by
  have h := all3 (p := fun x y z => (leastI y x == leastI x y) && (leastI x (leastI y z) == leastI (leastI x y) z) && covB (leastI x y) x && covB (leastI x y) y && (!(covB z x && covB z y) || covB z (leastI x y))) (by decide +kernel) x y z hx hy hz
  simp only [Bool.and_eq_true, Bool.or_eq_true, beq_iff_eq, Bool.not_eq_true', Bool.and_eq_false_iff] at h
  obtain ⟨⟨⟨⟨h1, h2⟩, h4⟩, h5⟩, h3⟩ := h
  refine ⟨h1, h2, h4, h5, fun a b => ?_⟩
  rcases h3 with (h3 | h3) | h3
  · rw [h3] at a; cases a
  · rw [h3] at b; cases b
  · exact h3

set_option maxHeartbeats 2000000 in
theorem above_at (a b c x y z : Int) (ha0 : 0 ≤ a) (ha1 : a ≤ 255) (hb0 : 0 ≤ b) (hb1 : b ≤ 255) (hc0 : 0 ≤ c) (hc1 : c ≤ 255)
    (ea : a % 5 = x) (eb : b % 5 = y) (ec : c % 5 = z) (w : World) :
    Calls Try.prog 6 #[.int .u8 a, .int .u8 b, .int .u8 c] w fun e w' => e = .returned (.bool true) ∧ w = w' := by
  have hx : 0 ≤ x ∧ x ≤ 4 := by omega
  have hy : 0 ≤ y ∧ y ≤ 4 := by omega
  have hz : 0 ≤ z ∧ z ≤ 4 := by omega
  obtain ⟨f1, f2, f4, f5, f3⟩ := above_facts x y z hx hy hz
  have hm := leastI_in x y
  have hq := leastI_in y z
  obtain ⟨m, em⟩ : ∃ m, leastI x y = m := ⟨_, rfl⟩
  obtain ⟨q, eq⟩ : ∃ q, leastI y z = q := ⟨_, rfl⟩
  obtain ⟨p, ep⟩ : ∃ p, leastI m z = p := ⟨_, rfl⟩
  rw [em] at f1 f2 f4 f5 f3 hm
  rw [eq] at f2 hq
  rw [ep] at f2
  have HX := Lib.hid hx
  have HY := Lib.hid hy
  have HZ := Lib.hid hz
  have HM := Lib.hid hm
  have HQ := Lib.hid hq
  have E1 := Lib.hid em
  have E2 := Lib.hid f1
  have E3 := Lib.hid ep
  have E4 := Lib.hid eq
  have E5 := Lib.hid f2
  have F3 := Lib.hid f3
  clear hx hy hz hm hq em f1 ep eq f2 f3
  go_enter Try.func6, Try.ntmps6
  go_wp2_with fail
  refine (alive_true _).mono ?_
  rintro e w' ⟨rfl, rfl⟩
  go_wp2_with fail
  refine (mleast_eq _ _ _ _ HX.out HY.out E1.out).mono ?_
  rintro e w' ⟨rfl, rfl⟩
  go_wp2_with fail
  refine (mleast_eq _ _ _ _ HY.out HX.out E2.out).mono ?_
  rintro e w' ⟨rfl, rfl⟩
  go_wp2_with fail
  refine (mleast_eq _ _ _ _ HM.out HZ.out E3.out).mono ?_
  rintro e w' ⟨rfl, rfl⟩
  go_wp2_with fail
  refine (mleast_eq _ _ _ _ HY.out HZ.out E4.out).mono ?_
  rintro e w' ⟨rfl, rfl⟩
  go_wp2_with fail
  refine (mleast_eq _ _ _ _ HX.out HQ.out E5.out).mono ?_
  rintro e w' ⟨rfl, rfl⟩
  go_wp2_with (go_at_call 13; refine (cov_any _ _ _).mono ?_; rintro e w' ⟨rfl, rfl⟩)
  all_goals
    go_ret
    refine ⟨retb ?_, rfl⟩
    go_light
    have g3 := F3.out
    clear F3
    first | rfl | (simp_all; done)

theorem order_true (a b c : Int) (ha0 : 0 ≤ a) (ha1 : a ≤ 255) (hb0 : 0 ≤ b) (hb1 : b ≤ 255) (hc0 : 0 ≤ c) (hc1 : c ≤ 255) (w : World) :
    Calls Try.prog 5 #[.int .u8 a, .int .u8 b, .int .u8 c] w fun e w' => e = .returned (.bool true) ∧ w = w' := order_at a b c _ _ _ ha0 ha1 hb0 hb1 hc0 hc1 rfl rfl rfl w
theorem above_true (a b c : Int) (ha0 : 0 ≤ a) (ha1 : a ≤ 255) (hb0 : 0 ≤ b) (hb1 : b ≤ 255) (hc0 : 0 ≤ c) (hc1 : c ≤ 255) (w : World) :
    Calls Try.prog 6 #[.int .u8 a, .int .u8 b, .int .u8 c] w fun e w' => e = .returned (.bool true) ∧ w = w' := above_at a b c _ _ _ ha0 ha1 hb0 hb1 hc0 hc1 rfl rfl rfl w
theorem beside_true (a b c : Int) (ha0 : 0 ≤ a) (ha1 : a ≤ 255) (hb0 : 0 ≤ b) (hb1 : b ≤ 255) (hc0 : 0 ≤ c) (hc1 : c ≤ 255) (w : World) :
    Calls Try.prog 7 #[.int .u8 a, .int .u8 b, .int .u8 c] w fun e w' => e = .returned (.bool true) ∧ w = w' := beside_at a b c _ _ _ ha0 ha1 hb0 hb1 hc0 hc1 rfl rfl rfl w
end Go.Proofs.Ytjapeckoemjjiaa

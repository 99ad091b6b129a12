/-
  The walk of catchboltlaw14.PartTable: it answers true at every two numbers. No conditions.
-/
import Derived.Test.YtlillhkgghcghaaAlive
import Derived.Test.YtlillhkgghcghaaRef
import Derived.Lib.Hide
namespace Go.Proofs.Ytlillhkgghcghaa
open Go.ChangeShapes Go.WideShapes Go.ChangeAt Go.RowKit

theorem next_ok (s e a b c : Int) (h : nx s e = (a, b, c, 0)) (w : World) : Calls Try.prog 8 #[.int .i64 s, .int .i64 e] w fun r w' => r = .returned (.tuple #[.int .i64 a, .agg #[.int .i64 b, .int .i64 c], .nilIface]) ∧ Below w.heap.size w w' :=
  (next_any s e w).mono fun _ _ hp => by unfold NxPost at hp; rw [h] at hp; exact hp
theorem next_bad (s e a b c d : Int) (h : nx s e = (a, b, c, d)) (hd : d ≠ 0) (w : World) : Calls Try.prog 8 #[.int .i64 s, .int .i64 e] w fun r w' => r = .returned (.tuple #[.int .i64 a, .agg #[.int .i64 b, .int .i64 c], .iface 38 (.int .i64 d)]) ∧ Below w.heap.size w w' :=
  (next_any s e w).mono fun _ _ hp => by unfold NxPost at hp; rw [h] at hp; simpa only [errV, if_neg hd] using hp
theorem ref_at (s e a b c d : Int) (h : nx s e = (a, b, c, d)) (w : World) :
    Calls Try.prog 9 #[.int .i64 s, .int .i64 e] w fun r w' => r = .returned (.tuple #[.int .i64 a, .int .i64 b, .int .i64 c, .int .i64 d]) ∧ Below w.heap.size w w' :=
  (ref_any s e w).mono fun _ _ hp => by rw [h] at hp; exact hp

theorem nx_err (s e : Int) : (nx s e).2.2.2 = 0 ∨ (nx s e).2.2.2 = 1 ∨ (nx s e).2.2.2 = 11 ∨ (nx s e).2.2.2 = 15 := by
  unfold nx; repeat' split
  all_goals simp

set_option maxHeartbeats 1000000 in
theorem table_ok (s e a b c : Int) (h : nx s e = (a, b, c, 0)) (w : World) : Calls Try.prog 3 #[.int .i64 s, .int .i64 e] w fun r w' => r = .returned (.bool true) ∧ Below w.heap.size w w' := by
  have H := Lib.hid h
  clear h
  go_enter Try.func3, Try.ntmps3
  go_wp2_with fail
  refine (alive_true _).mono ?_
  rintro r w1 ⟨rfl, hb1⟩
  go_wp2_with fail
  refine (next_ok _ _ _ _ _ H.out _).mono ?_
  rintro r w2 ⟨rfl, hb2⟩
  go_wp2_with fail
  refine (ref_at _ _ _ _ _ _ H.out _).mono ?_
  rintro r w3 ⟨rfl, hb3⟩
  obtain ⟨c0, c1, f0, f1, hz⟩ := keep2 hb3
  go_wp2_with fail
  refine (code_nil _).mono ?_
  rintro r w4 ⟨rfl, rfl⟩
  go_wp2
  all_goals
    go_ret
    refine ⟨rfl, ?_⟩
    have g1 := hb1.size
    have g2 := hb2.size
    exact ((hb1.trans (hb2.mono g1)).alloc (by omega) _).trans (hb3.mono (by simp; omega))

set_option maxHeartbeats 1000000 in
theorem table_bad (s e a b c d : Int) (h : nx s e = (a, b, c, d)) (hd1 : 1 ≤ d) (hd2 : d ≤ 15) (w : World) : Calls Try.prog 3 #[.int .i64 s, .int .i64 e] w fun r w' => r = .returned (.bool true) ∧ Below w.heap.size w w' := by
  have H := Lib.hid h
  clear h
  go_enter Try.func3, Try.ntmps3
  go_wp2_with fail
  refine (alive_true _).mono ?_
  rintro r w1 ⟨rfl, hb1⟩
  go_wp2_with fail
  refine (next_bad _ _ _ _ _ _ H.out (by omega) _).mono ?_
  rintro r w2 ⟨rfl, hb2⟩
  go_wp2_with fail
  refine (ref_at _ _ _ _ _ _ H.out _).mono ?_
  rintro r w3 ⟨rfl, hb3⟩
  obtain ⟨c0, c1, f0, f1, hz⟩ := keep2 hb3
  go_wp2_with fail
  refine (code_errno _ _ (by omega) (by omega)).mono ?_
  rintro r w4 ⟨rfl, rfl⟩
  go_wp2
  all_goals
    go_ret
    refine ⟨rfl, ?_⟩
    have g1 := hb1.size
    have g2 := hb2.size
    exact ((hb1.trans (hb2.mono g1)).alloc (by omega) _).trans (hb3.mono (by simp; omega))

theorem table_true (s e : Int) (w : World) : Calls Try.prog 3 #[.int .i64 s, .int .i64 e] w fun r w' => r = .returned (.bool true) ∧ Below w.heap.size w w' := by
  have he := nx_err s e
  obtain ⟨a, b, c, d, h⟩ : ∃ a b c d, nx s e = (a, b, c, d) := ⟨_, _, _, _, rfl⟩
  rw [h] at he
  simp only at he
  by_cases hd : d = 0
  · subst hd; exact table_ok s e a b c h w
  · exact table_bad s e a b c d h (by omega) (by omega) w
end Go.Proofs.Ytlillhkgghcghaa

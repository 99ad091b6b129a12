/-
  script.read at whatever five bytes gives rdF of them; the reference's One too. No other conditions.
-/
import Derived.Test.YtkmmhdghkbleaaaDoorEntR
namespace Go.Proofs.YtkmmhdghkbleaaaDoor
open Go.ChangeShapes Go.WideShapes Go.ChangeAt Go.RowKit
set_option linter.unusedVariables false

theorem read_any (b off : Nat) (k a1 a2 a3 a4 : Int) (w : World) (hc0 : w.cell? ⟨b, off, none⟩ = some (.int .u8 k)) (hc1 : w.cell? ⟨b, off + 1, none⟩ = some (.int .u8 a1)) (hc2 : w.cell? ⟨b, off + 2, none⟩ = some (.int .u8 a2))
    (hc3 : w.cell? ⟨b, off + 3, none⟩ = some (.int .u8 a3)) (hc4 : w.cell? ⟨b, off + 4, none⟩ = some (.int .u8 a4)) (h0 : 0 ≤ k) (h0' : k ≤ 255) (h1 : 0 ≤ a1) (h1' : a1 ≤ 255) (h2 : 0 ≤ a2) (h2' : a2 ≤ 255) (h3 : 0 ≤ a3) (h3' : a3 ≤ 255) (h4 : 0 ≤ a4) (h4' : a4 ≤ 255) :
    Calls Tryd.prog 19 #[.slice (some ⟨b, off, none⟩) 5 5] w fun e w' => e = .returned (rdF k a1 a2 a3 a4).val ∧ Below w.heap.size w w' := by
  by_cases k3 : k = 3
  · subst k3
    by_cases hf : (1 ≤ a1 ∧ a1 ≤ 8) ∧ (1 ≤ a2 ∧ a2 ≤ 250 ∧ 0 ≤ a3 ∧ a3 ≤ 250) ∧ (1 ≤ a4 ∧ a4 ≤ 4)
    · have e : rdF 3 a1 a2 a3 a4 = ⟨3, a1, a2, a3, a4, 0⟩ := by unfold rdF; rw [if_neg (by omega), if_neg (by omega), if_pos ⟨rfl, hf⟩]
      rw [e]; exact read_3t b off a1 a2 a3 a4 w hc0 hc1 hc2 hc3 hc4 h1 h1' h2 h2' h3 h3' h4 h4' (by unfold entB; rw [if_pos rfl]; exact decide_eq_true (by omega))
    · have e : rdF 3 a1 a2 a3 a4 = Ent.none := by unfold rdF; rw [if_neg (by omega), if_neg (by omega), if_neg (by omega), if_neg (by omega)]
      rw [e]; exact read_3f b off a1 a2 a3 a4 w hc0 hc1 hc2 hc3 hc4 h1 h1' h2 h2' h3 h3' h4 h4' (by unfold entB; rw [if_pos rfl]; exact decide_eq_false (by omega))
  · by_cases kc : k = 2 ∨ k = 4 ∨ k = 5 ∨ k = 6
    · by_cases hz : a2 = 0 ∧ a3 = 0 ∧ a4 = 0
      · by_cases hb : 1 ≤ a1 ∧ a1 ≤ 8
        · have e : rdF k a1 a2 a3 a4 = ⟨k, a1, 0, 0, 0, 0⟩ := by unfold rdF; rw [if_neg (by omega), if_pos ⟨kc, hb, hz⟩]
          rw [e]; exact read_ct b off k a1 a2 a3 a4 w hc0 hc1 hc2 hc3 hc4 h1 h1' h2 h2' h3 h3' h4 h4' kc (by unfold entB; rw [if_neg (by omega), if_pos kc]; exact decide_eq_true (by omega)) hz
        · have e : rdF k a1 a2 a3 a4 = Ent.none := by unfold rdF; rw [if_neg (by omega), if_neg (by omega), if_neg (by omega), if_neg (by omega)]
          rw [e]; exact read_cf b off k a1 a2 a3 a4 w hc0 hc1 hc2 hc3 hc4 h1 h1' h2 h2' h3 h3' h4 h4' kc (by unfold entB; rw [if_neg (by omega), if_pos kc]; exact decide_eq_false (by omega))
      · have e : rdF k a1 a2 a3 a4 = Ent.none := by unfold rdF; rw [if_neg (by omega), if_neg (by omega), if_neg (by omega), if_neg (by omega)]
        rw [e]
        by_cases hb : 1 ≤ a1 ∧ a1 ≤ 8
        · refine read_cz b off k a1 a2 a3 a4 w hc0 hc1 hc2 hc3 hc4 h1 h1' h2 h2' h3 h3' h4 h4' kc (by unfold entB; rw [if_neg (by omega), if_pos kc]; exact decide_eq_true (by omega)) ?_
          simp only [Bool.and_eq_false_iff, beq_eq_false_iff_ne]; omega
        · exact read_cf b off k a1 a2 a3 a4 w hc0 hc1 hc2 hc3 hc4 h1 h1' h2 h2' h3 h3' h4 h4' kc (by unfold entB; rw [if_neg (by omega), if_pos kc]; exact decide_eq_false (by omega))
    · by_cases kd : k = 0 ∨ k = 1
      · by_cases hz : a1 = 0 ∧ a2 = 0 ∧ a3 = 0 ∧ a4 = 0
        · have e : rdF k a1 a2 a3 a4 = ⟨k, 0, 0, 0, 0, 0⟩ := by
            rcases kd with rfl | rfl
            · unfold rdF; rw [if_neg (by omega), if_neg (by omega), if_neg (by omega), if_neg (by omega)]; rfl
            · unfold rdF; rw [if_pos ⟨rfl, hz⟩]
          rw [e]; exact read_0t b off k a1 a2 a3 a4 w hc0 hc1 hc2 hc3 hc4 h1 h1' h2 h2' h3 h3' h4 h4' kd hz
        · have e : rdF k a1 a2 a3 a4 = Ent.none := by unfold rdF; rw [if_neg (by omega), if_neg (by omega), if_neg (by omega), if_neg (by omega)]
          rw [e]
          refine read_0z b off k a1 a2 a3 a4 w hc0 hc1 hc2 hc3 hc4 h1 h1' h2 h2' h3 h3' h4 h4' kd ?_
          simp only [Bool.and_eq_false_iff, beq_eq_false_iff_ne]; omega
      · by_cases kp : k = 7 ∨ k = 8 ∨ k = 9
        · by_cases hz : a4 = 0
          · have e : rdF k a1 a2 a3 a4 = ⟨k, 0, 0, 0, 0, 65536 * a1 + 256 * a2 + a3⟩ := by unfold rdF; rw [if_neg (by omega), if_neg (by omega), if_neg (by omega), if_pos ⟨by omega, hz⟩]
            rw [e]; exact read_pt b off k a1 a2 a3 a4 w hc0 hc1 hc2 hc3 hc4 h1 h1' h2 h2' h3 h3' h4 h4' _ (pick_or a1 a2 a3 h1 h1' h2 h2' h3 h3') kp hz
          · have e : rdF k a1 a2 a3 a4 = Ent.none := by unfold rdF; rw [if_neg (by omega), if_neg (by omega), if_neg (by omega), if_neg (by omega)]
            rw [e]; exact read_pz b off k a1 a2 a3 a4 w hc0 hc1 hc2 hc3 hc4 h1 h1' h2 h2' h3 h3' h4 h4' _ (pick_or a1 a2 a3 h1 h1' h2 h2' h3 h3') kp (by simp; omega)
        · have e : rdF k a1 a2 a3 a4 = Ent.none := by unfold rdF; rw [if_neg (by omega), if_neg (by omega), if_neg (by omega), if_neg (by omega)]
          rw [e]; exact read_of b off k a1 a2 a3 a4 w hc0 hc1 hc2 hc3 hc4 h1 h1' h2 h2' h3 h3' h4 h4' (by omega) h0'

set_option maxHeartbeats 1000000 in
theorem rresok_any (t r : Int) (w : World) :
    Calls Tryd.prog 20 #[.agg #[.int .i64 t, .int .i64 r]] w fun e w' => e = .returned (.bool (resB t r)) ∧ w.alloc (.cells #[.int .i64 t, .int .i64 r] 27) = w' := by
  by_cases h1 : 1 ≤ t
  · by_cases h2 : t ≤ 250
    · by_cases h3 : 0 ≤ r
      · by_cases h4 : r ≤ 250
        · have hB : resB t r = true := by simp only [resB, h1, h2, h3, h4, and_self, decide_true]
          rw [hB]; clear hB
          go_enter Tryd.func20, Tryd.ntmps20
          go_wp2
          go_ret
          exact ⟨retb (by first | rfl | (simp; done) | (simp; omega)), rfl⟩
        · have hB : resB t r = false := by simp only [resB, h4, and_false, decide_false]
          rw [hB]; clear hB
          go_enter Tryd.func20, Tryd.ntmps20
          go_wp2
          go_ret
          exact ⟨retb (by first | rfl | (simp; done) | (simp; omega)), rfl⟩
      · have hB : resB t r = false := by simp only [resB, h3, and_false, false_and, decide_false]
        rw [hB]; clear hB
        go_enter Tryd.func20, Tryd.ntmps20
        go_wp2
        go_ret
        exact ⟨retb (by first | rfl | (simp; done) | (simp; omega)), rfl⟩
    · have hB : resB t r = false := by simp only [resB, h2, and_false, false_and, decide_false]
      rw [hB]; clear hB
      go_enter Tryd.func20, Tryd.ntmps20
      go_wp2
      go_ret
      exact ⟨retb (by first | rfl | (simp; done) | (simp; omega)), rfl⟩
  · have hB : resB t r = false := by simp only [resB, h1, false_and, decide_false]
    rw [hB]; clear hB
    go_enter Tryd.func20, Tryd.ntmps20
    go_wp2
    go_ret
    exact ⟨retb (by first | rfl | (simp; done) | (simp; omega)), rfl⟩

theorem ret_ent {E : Ent} {a b c d e f : Int} (h : E = ⟨a, b, c, d, e, f⟩) : Ending.returned (.agg #[.int .i64 a, .int .i64 b, .int .i64 c, .int .i64 d, .int .i64 e, .int .i64 f]) = .returned E.val := by
  subst h; rfl

set_option maxRecDepth 100000 in
set_option maxHeartbeats 8000000 in
theorem one_any (k a1 a2 a3 a4 : Int) (w : World) (h0 : 0 ≤ k) (h0' : k ≤ 255) (h1 : 0 ≤ a1) (h1' : a1 ≤ 255) (h2 : 0 ≤ a2) (h2' : a2 ≤ 255) (h3 : 0 ≤ a3) (h3' : a3 ≤ 255) (h4 : 0 ≤ a4) (h4' : a4 ≤ 255) :
    Calls Tryd.prog 13 #[.int .i64 k, .int .i64 a1, .int .i64 a2, .int .i64 a3, .int .i64 a4] w fun e w' => e = .returned (rdF k a1 a2 a3 a4).val ∧ Below w.heap.size w w' := by
  go_enter Tryd.func13, Tryd.ntmps13
  go_wp2_with (go_at_call 20; refine (rresok_any _ _ _).mono ?_; rintro e w' ⟨rfl, rfl⟩)
  all_goals go_returns
  all_goals refine ⟨ret_ent ?_, by go_grown⟩
  all_goals go_light
  all_goals (try simp only [resB, decide_eq_true_eq, beq_iff_eq, beq_eq_false_iff_ne] at *)
  all_goals (unfold rdF; repeat (first | rw [if_pos (by omega)] | rw [if_neg (by omega)]))
  all_goals (first | rfl | (rw [Ent.mk.injEq]; omega))
end Go.Proofs.YtkmmhdghkbleaaaDoor

/-
  line.Pop: the first one leaves, of a line and of none. No other conditions.
-/
import Derived.Test.YtpbgdldaojpjkaaRefL
namespace Go.Proofs.Ytpbgdldaojpjkaa
open Go.ChangeShapes Go.WideShapes Go.ChangeAt Go.RowKit
set_option linter.unusedVariables false

def popT (l : Lot) : Int := (l.all.getD 0 Wt.none).x

theorem leave_empty (l : Lot) (t : Int) (h : l.n = 0) : l.has t = false ∧ leaveW l t = Wt.none ∧ leaveE l t = 10 ∧ leaveL l t = l := by
  have h0 : l.has t = false := by
    unfold Lot.has Lot.all
    apply decide_eq_false
    rw [List.length_append]
    unfold Lot.n at h
    omega
  exact ⟨h0, by unfold leaveW; rw [if_neg (by rw [h0]; decide)], by unfold leaveE; rw [if_neg (by rw [h0]; decide)], leaveL_same l t h0⟩

set_option maxHeartbeats 1000000 in
theorem all_none (w : World) :
    Calls Try.prog 14 #[.pointer none] w fun r w' => r = .returned (.slice none 0 0) ∧ w = w' := by
  go_enter Try.func14, Try.ntmps14
  go_wp2
  go_ret
  exact ⟨rfl, rfl⟩

set_option maxHeartbeats 1000000 in
theorem pop_none (w : World) :
    Calls Try.prog 18 #[.pointer none] w fun r w' => r = .returned (.tuple #[.agg #[.int .i64 0, .int .i64 0, .int .i64 0, .bool false], .iface 55 (.int .i64 1)]) ∧ Below w.heap.size w w' := by
  go_enter Try.func18, Try.ntmps18
  go_wp2_with fail
  refine (all_none _).mono ?_
  rintro e w2 ⟨rfl, rfl⟩
  go_wp2
  go_returns
  exact ⟨rfl, by go_grown⟩

/-- all, of a line -/
theorem all_x (B g : Nat) (lim : Int) (l : Lot) (S : Nat → Prop) (w : World) (hX : LineX w B g lim l S) (hn : l.n ≤ 1000) :
    Calls Try.prog 14 #[.pointer (some ⟨g, 0, none⟩)] w fun e w' => (∃ v, e = .returned v ∧ w'.ownsRow w.heap.size 33 4 v l.n (flatW l.all)) ∧ Below w.heap.size w w' := by
  obtain ⟨_, A0, A1, c0, c1, hl, r0, r1, z0, z1⟩ := hX.at
  have h := all_any g lim A0 A1 c0 c1 l.a l.b l.a.length l.b.length w rfl rfl hl r0 r1 z0 z1 (by unfold Lot.n at hn; omega) (by unfold Lot.n at hn; omega)
  exact h

set_option maxRecDepth 100000 in
set_option maxHeartbeats 4000000 in
theorem pop_any (B g : Nat) (lim : Int) (l : Lot) (S : Nat → Prop) (w : World) (hX : LineX w B g lim l S) (hBw : B ≤ w.heap.size) (hn : l.n ≤ 1000) :
    Calls Try.prog 18 #[.pointer (some ⟨g, 0, none⟩)] w fun r w' => LeaveOf w w' B g lim l S (popT l) r := by
  have HSw : Hid (∀ k, S k → k < w.heap.size) := Lib.hid (fun k hk => by obtain ⟨_, _, _, _, _, _, _, _, _, h⟩ := hX; exact (h k hk).1)
  have HX := Lib.hid hX
  clear hX
  have hbA : Below w.heap.size w (w.alloc (.cells #[.int .i64 0, .int .i64 0, .int .i64 0, .bool false] 33)) := (Below.refl _ _).alloc (Nat.le_refl _) _
  have hX1 := HX.out.more hbA (fun k => S k ∨ k = w.heap.size) (fun k hk => by
    rcases hk with h | rfl
    · exact .inl h
    · right; simp)
  have hzb : (w.alloc (.cells #[.int .i64 0, .int .i64 0, .int .i64 0, .bool false] 33)).heap[w.heap.size]? = some (.cells #[.int .i64 0, .int .i64 0, .int .i64 0, .bool false] 33 (0, 0)) := heap_alloc_new w _
  have hw1 : w.heap.size < (w.alloc (.cells #[.int .i64 0, .int .i64 0, .int .i64 0, .bool false] 33)).heap.size := by simp
  have HX1 := Lib.hid hX1
  clear hX1
  go_enter Try.func18, Try.ntmps18
  go_wp2_with fail
  generalize w.alloc (.cells #[.int .i64 0, .int .i64 0, .int .i64 0, .bool false] 33) = w1 at *
  refine (all_x B g lim l _ w1 HX1.out hn).mono ?_
  rintro e w2 ⟨⟨v2, rfl, hown2⟩, hb2⟩
  have hB2 := hbA.trans (hb2.mono hbA.size)
  have hz2 := (hb2.block w.heap.size hw1).trans hzb
  obtain ⟨hlen, A2, cap2, rfl, _, r2⟩ := rdw_of_own hown2
  have HZ2 := Lib.hid hz2
  clear hown2 hzb hz2
  rcases Nat.eq_zero_or_pos l.n with h0 | h0
  · obtain ⟨_, e1, e2, e3⟩ := leave_empty l (popT l) h0
    rw [h0]
    have hk2 := HZ2.out
    have u0 : w2.cell? ⟨w.heap.size, 0, none⟩ = some (.int .i64 0) := by simp [World.cell?, hk2]
    have u1 : w2.cell? ⟨w.heap.size, 1, none⟩ = some (.int .i64 0) := by simp [World.cell?, hk2]
    have u2 : w2.cell? ⟨w.heap.size, 2, none⟩ = some (.int .i64 0) := by simp [World.cell?, hk2]
    have u3 : w2.cell? ⟨w.heap.size, 3, none⟩ = some (.bool false) := by simp [World.cell?, hk2]
    have d0 := frozen_of7 hk2 (j := 0)
    have d1 := frozen_of7 hk2 (j := 1)
    have d2 := frozen_of7 hk2 (j := 2)
    have d3 := frozen_of7 hk2 (j := 3)
    obtain ⟨q0, q1, q2, q3⟩ := set4 u0 u1 u2 u3 (.int .i64 0) (.int .i64 0) (.int .i64 0) (.bool false)
    have hbf : ∀ W, Below w.heap.size w W → LeaveOf w W B g lim l S (popT l) (.returned (.tuple #[.agg #[.int .i64 0, .int .i64 0, .int .i64 0, .bool false], .iface 55 (.int .i64 10)])) := fun W hW =>
      ⟨by rw [e1, e2]; rfl, by rw [e3]; exact HX.out.below hW, hW.mono hBw, HX.out.kept hW⟩
    have HBF := Lib.hid hbf
    clear hbf hk2
    go_wp2
    refine bodyPost_ret (by simp [results, Try.results18, go_sem, q0, q1, q2, q3] <;> rfl) rfl (HBF.out _ ?_)
    go_grown
  · obtain ⟨gx, ox, hAx, hcx⟩ := r2
    obtain ⟨rfl, hgx⟩ := hAx (by omega)
    obtain ⟨p0, p1, p2, p3⟩ := hcx 0 (by omega)
    have HPT := Lib.hid (show (l.all.getD 0 Wt.none).x = popT l from rfl)
    rw [HPT.out, Nat.zero_mul, Nat.add_zero] at p0
    clear hAx hcx p1 p2 p3
    have hn0 : ¬ ((l.n : Int) = 0) := by omega
    have hn1 : (0 : Int) < (l.n : Int) := by omega
    have hnb : ((l.n : Int) == 0) = false := by simp; omega
    have hX2 := Lib.hid (HX1.out.below hb2)
    go_wp2_with fail
    refine (leave_any B g lim l _ (popT l) w2 hX2.out (by have := hB2.size; omega) hn).mono ?_
    rintro e w5 ⟨rfl, hX5, hB5, hk5⟩
    have hk := (hk5 w.heap.size (.inr rfl)).trans HZ2.out
    have u0 : w5.cell? ⟨w.heap.size, 0, none⟩ = some (.int .i64 0) := by simp [World.cell?, hk]
    have u1 : w5.cell? ⟨w.heap.size, 1, none⟩ = some (.int .i64 0) := by simp [World.cell?, hk]
    have u2 : w5.cell? ⟨w.heap.size, 2, none⟩ = some (.int .i64 0) := by simp [World.cell?, hk]
    have u3 : w5.cell? ⟨w.heap.size, 3, none⟩ = some (.bool false) := by simp [World.cell?, hk]
    have d0 := frozen_of7 hk (j := 0)
    have d1 := frozen_of7 hk (j := 1)
    have d2 := frozen_of7 hk (j := 2)
    have d3 := frozen_of7 hk (j := 3)
    generalize hW : leaveW l (popT l) = E
    obtain ⟨ex, es, em, eu⟩ := E
    have HWt := Lib.hid hW
    rw [show (⟨ex, es, em, eu⟩ : Wt).val = .agg #[.int .i64 ex, .int .i64 es, .int .i64 em, .bool eu] from rfl]
    generalize hEV : errV (leaveE l (popT l)) = ev
    have HEV := Lib.hid hEV
    obtain ⟨q0, q1, q2, q3⟩ := set4 u0 u1 u2 u3 (.int .i64 ex) (.int .i64 es) (.int .i64 em) (.bool eu)
    have H5 := Lib.hid hX5
    have HB5 := Lib.hid hB5
    have HK5 := Lib.hid hk5
    clear hX5 hB5 hk5 hk hW hEV
    go_wp2
    refine bodyPost_ret (by simp [results, Try.results18, go_sem, q0, q1, q2, q3] <;> rfl) rfl ⟨?_, ?_, ?_, ?_⟩
    · rw [HWt.out, HEV.out]; rfl
    · refine LineX.sub ?_ S (fun k hk => .inl hk) (S := fun k => S k ∨ k = w.heap.size)
      exact ((((H5.out.set (.inr rfl)).set (.inr rfl)).set (.inr rfl)).set (.inr rfl))
    · exact ((((hB2.mono hBw).trans HB5.out).setCell hBw _).setCell hBw _).setCell hBw _ |>.setCell hBw _
    · intro k hk
      have hkw := HSw.out k hk
      have hne' : k ≠ w.heap.size := by omega
      rw [Below.heap_setCell _ _ _ k hne', Below.heap_setCell _ _ _ k hne', Below.heap_setCell _ _ _ k hne', Below.heap_setCell _ _ _ k hne', HK5.out k (.inl hk)]
      exact hB2.block k hkw
end Go.Proofs.Ytpbgdldaojpjkaa

/-
  line.Find, of a line and of none. No other conditions.
-/
import Derived.Test.YtpbgdldaojpjkaaDel
namespace Go.Proofs.Ytpbgdldaojpjkaa
open Go.ChangeShapes Go.WideShapes Go.ChangeAt Go.RowKit
set_option linter.unusedVariables false

theorem place_cases (l : Lot) (t : Int) (h : l.has t = true) :
    (placeN l t = 0 ∧ placeI l t = findW l.a t ∧ findW l.a t < l.a.length ∧ leaveW l t = l.a.getD (findW l.a t) Wt.none ∧ leaveL l t = ⟨l.a.eraseIdx (findW l.a t), l.b⟩) ∨
    (placeN l t = 1 ∧ placeI l t = findW l.b t ∧ findW l.b t < l.b.length ∧ leaveW l t = l.b.getD (findW l.b t) Wt.none ∧ leaveL l t = ⟨l.a, l.b.eraseIdx (findW l.b t)⟩) := by
  have hB := placeB_has l t
  rw [h] at hB
  unfold placeB at hB
  have hB := of_decide_eq_true hB
  unfold placeN placeI leaveW leaveL
  rw [if_pos h]
  unfold Lot.all
  rw [findW_append]
  by_cases ha : findW l.a t < l.a.length
  · left
    rw [if_pos ha, if_pos ha, if_pos ha, if_pos ha, getW_left _ _ _ ha]
    exact ⟨rfl, rfl, ha, rfl, rfl⟩
  · have hb : findW l.b t < l.b.length := by omega
    right
    rw [if_neg ha, if_neg ha, if_neg ha, if_neg ha, if_pos hb, if_pos hb, if_pos hb, getW_right _ _ _ (by omega), Nat.add_sub_cancel_left]
    exact ⟨rfl, rfl, hb, rfl, rfl⟩

set_option maxHeartbeats 1000000 in
theorem find_none (t : Int) (w : World) :
    Calls Try.prog 16 #[.pointer none, .int .i64 t] w fun r w' => r = .returned (.tuple #[.agg #[.int .i64 0, .int .i64 0, .int .i64 0, .bool false], .iface 55 (.int .i64 1)]) ∧ Below w.heap.size w w' := by
  go_enter Try.func16, Try.ntmps16
  go_wp2
  go_returns
  exact ⟨rfl, by go_grown⟩

set_option maxRecDepth 100000 in
set_option maxHeartbeats 4000000 in
theorem find_any (B g : Nat) (lim : Int) (l : Lot) (S : Nat → Prop) (t : Int) (w : World) (hX : LineX w B g lim l S) (hn : l.n ≤ 1000) :
    Calls Try.prog 16 #[.pointer (some ⟨g, 0, none⟩), .int .i64 t] w fun r w' => r = .returned (.tuple #[(leaveW l t).val, errV (leaveE l t)]) ∧ Below w.heap.size w w' := by
  obtain ⟨hBg, A0, A1, c0, c1, hl, r0, r1, z0, z1⟩ := hX.at
  have hna : l.a.length ≤ 1000 := by unfold Lot.n at hn; omega
  have hnb : l.b.length ≤ 1000 := by unfold Lot.n at hn; omega
  have hbA : Below w.heap.size w (w.alloc (.cells #[.int .i64 0, .int .i64 0, .int .i64 0, .bool false] 33)) := (Below.refl _ _).alloc (Nat.le_refl _) _
  have HL := Lib.hid hl
  have R0 := Lib.hid r0
  have R1 := Lib.hid r1
  clear hl r0 r1 hX
  go_enter Try.func16, Try.ntmps16
  go_wp2_with fail
  refine (place_any g lim A0 A1 c0 c1 l t _ (HL.out.below hbA) (R0.out.below hbA) (R1.out.below hbA) (by omega) (by omega)).mono ?_
  rintro e w2 ⟨rfl, hb2⟩
  have hws : w.heap.size < w2.heap.size := Nat.lt_of_lt_of_le (by simp) hb2.size
  have hB2 := hbA.trans (hb2.mono (by simp))
  obtain ⟨kc, kf, kz⟩ := belowK hb2 (K := w.heap.size + 1) (by simp)
  rw [placeB_has]
  rcases hhas : l.has t with _ | _
  · have e0 : leaveW l t = Wt.none := by unfold leaveW; rw [if_neg (by rw [hhas]; decide)]
    have e1 : leaveE l t = 10 := by unfold leaveE; rw [if_neg (by rw [hhas]; decide)]
    go_wp2
    refine bodyPost_ret (by simp [results, Try.results16, go_sem, kc]; rfl) rfl ⟨?_, ?_⟩
    · rw [e0, e1]; rfl
    · go_grown
  · have e1 : leaveE l t = 0 := by unfold leaveE; rw [if_pos hhas]
    obtain ⟨hgl, hq0, hq1, hq2⟩ := HL.out.below hB2
    rcases place_cases l t hhas with ⟨p0, p1, p2, p3, _⟩ | ⟨p0, p1, p2, p3, _⟩
    · rw [p0, p1]
      obtain ⟨gx, ox, hAx, hcx⟩ := R0.out.below hB2
      obtain ⟨rfl, hgx⟩ := hAx (by omega)
      obtain ⟨x0, x1, x2, x3⟩ := hcx (findW l.a t) p2
      generalize l.a.getD (findW l.a t) Wt.none = E at *
      generalize findW l.a t = i at *
      obtain ⟨ex, es, em, eu⟩ := E
      simp only at x0 x1 x2 x3
      have hi : (i : Int) < (l.a.length : Int) := by omega
      have hi0 : (0 : Int) ≤ i := by omega
      generalize l.a.length = na at *
      clear hAx hcx
      have P3 := Lib.hid p3
      clear p3
      go_wp2
      refine bodyPost_ret (by simp [results, Try.results16, go_sem, kc]; rfl) rfl ⟨?_, ?_⟩
      · rw [e1, P3.out]; rfl
      · go_grown
    · rw [p0, p1]
      obtain ⟨gx, ox, hAx, hcx⟩ := R1.out.below hB2
      obtain ⟨rfl, hgx⟩ := hAx (by omega)
      obtain ⟨x0, x1, x2, x3⟩ := hcx (findW l.b t) p2
      generalize l.b.getD (findW l.b t) Wt.none = E at *
      generalize findW l.b t = i at *
      obtain ⟨ex, es, em, eu⟩ := E
      simp only at x0 x1 x2 x3
      have hi : (i : Int) < (l.b.length : Int) := by omega
      have hi0 : (0 : Int) ≤ i := by omega
      generalize l.b.length = nb at *
      clear hAx hcx
      have P3 := Lib.hid p3
      clear p3
      go_wp2
      refine bodyPost_ret (by simp [results, Try.results16, go_sem, kc]; rfl) rfl ⟨?_, ?_⟩
      · rw [e1, P3.out]; rfl
      · go_grown
end Go.Proofs.Ytpbgdldaojpjkaa

/-
  Entries as bytes. No conditions beyond those that each theorem states.
-/
import Derived.Test.YtjpjlfjaapfnkaaGreatDoorDME
import Derived.Test.YtjpjlfjaapfnkaaGreatDoorDMA
import Derived.Test.YtjpjlfjaapfnkaaGreatDoorDMB
set_option linter.unusedVariables false
set_option linter.unusedSimpArgs false
namespace Go.Proofs.YtjpjlfjaapfnkaaGreatDoor
open Go.ChangeShapes Go.WideShapes Go.ChangeAt Go.RowKit
def Cells6 (w : World) (g o : Nat) (E : Ent) : Prop :=
 w.cell? ⟨g, o, none⟩ = some (.int .i64 E.k) ∧ w.cell? ⟨g, o + 1, none⟩ = some (.int .i64 E.c) ∧ w.cell? ⟨g, o + 2, none⟩ = some (.int .i64 E.t) ∧
 w.cell? ⟨g, o + 3, none⟩ = some (.int .i64 E.r) ∧ w.cell? ⟨g, o + 4, none⟩ = some (.int .i64 E.m) ∧ w.cell? ⟨g, o + 5, none⟩ = some (.int .i64 E.p)
theorem Cells6.below {w w1 : World} {g o : Nat} {E : Ent} (h : Cells6 w g o E) {B : Nat} (hb : Below B w w1) (hg : g < B) : Cells6 w1 g o E := by
 obtain ⟨a, b, c, d, e, f⟩ := h
 exact ⟨(hb.cell (p := ⟨g, _, none⟩) hg).trans a, (hb.cell (p := ⟨g, _, none⟩) hg).trans b, (hb.cell (p := ⟨g, _, none⟩) hg).trans c, (hb.cell (p := ⟨g, _, none⟩) hg).trans d, (hb.cell (p := ⟨g, _, none⟩) hg).trans e, (hb.cell (p := ⟨g, _, none⟩) hg).trans f⟩
theorem flat_get (es : List Ent) (i j : Nat) (hi : i < es.length) (hj : j < 6) : (flat es)[6 * i + j]? = (es.getD i Ent.none).cells[j]? := by
 induction es generalizing i with
 | nil => simp at hi
 | cons e r ih =>
  rw [show flat (e :: r) = e.cells ++ flat r from rfl]
  have hl : e.cells.length = 6 := rfl
  cases i with
  | zero => rw [List.getElem?_append_left (by omega)]; simp
  | succ i =>
   rw [List.getElem?_append_right (by omega), hl, show 6 * (i + 1) + j - 6 = 6 * i + j from by omega, ih i (by simpa using hi)]
   simp
def RdB (w : World) (A : Option Addr) (n : Nat) (bs : List Int) : Prop :=
 bs.length = n ∧ (∀ i, 0 ≤ bs.getD i 0 ∧ bs.getD i 0 ≤ 255) ∧ ∃ b off, (0 < n → A = some ⟨b, off, none⟩ ∧ b < w.heap.size) ∧ ∀ i, i < n → w.cell? ⟨b, off + i, none⟩ = some (.int .u8 (bs.getD i 0))
theorem RdB.below {w w1 : World} {A : Option Addr} {n : Nat} {bs : List Int} (h : RdB w A n bs) (hb : Below w.heap.size w w1) : RdB w1 A n bs := by
 obtain ⟨hl, hw, b, off, hA, hc⟩ := h
 refine ⟨hl, hw, b, off, fun hn => ⟨(hA hn).1, Nat.lt_of_lt_of_le (hA hn).2 hb.size⟩, fun i hi => ?_⟩
 exact (hb.cell (p := ⟨b, _, none⟩) (hA (by omega)).2).trans (hc i hi)
def RdEo (w : World) (A : Option Addr) (es : List Ent) : Prop :=
 ∃ g off, (0 < es.length → A = some ⟨g, off, none⟩ ∧ g < w.heap.size) ∧ ∀ i, i < es.length → Cells6 w g (off + i * 6) (es.getD i Ent.none)
theorem RdEo.below {w w1 : World} {A : Option Addr} {es : List Ent} (h : RdEo w A es) (hb : Below w.heap.size w w1) : RdEo w1 A es := by
 obtain ⟨g, off, hA, hc⟩ := h
 exact ⟨g, off, fun hn => ⟨(hA hn).1, Nat.lt_of_lt_of_le (hA hn).2 hb.size⟩, fun i hi => (hc i hi).below hb (hA (by omega)).2⟩
theorem rdeo_nil (w : World) (A : Option Addr) : RdEo w A [] := ⟨0, 0, fun h => by simp at h, fun i h => by simp at h⟩
theorem rdeo_one (w : World) (ek ec et er em ep : Int) (T : TypeId) : RdEo (w.alloc (.cells #[.int .i64 ek, .int .i64 ec, .int .i64 et, .int .i64 er, .int .i64 em, .int .i64 ep] T)) (some ⟨w.heap.size, 0, none⟩) [⟨ek, ec, et, er, em, ep⟩] :=
 ⟨w.heap.size, 0, fun _ => ⟨rfl, by simp⟩, fun i hi => by
  obtain rfl : i = 0 := by simpa using hi
  unfold Cells6; simp⟩
set_option maxHeartbeats 1000000 in
theorem of_any (k c t r m p : Int) (w : World) :
 Calls Tryz.prog 11 #[.agg #[.int .i64 k, .int .i64 c, .int .i64 t, .int .i64 r, .int .i64 m, .int .i64 p]] w fun e w' => e = .returned (.agg #[.int .i64 k, .int .i64 c, .int .i64 t, .int .i64 r, .int .i64 m, .int .i64 p]) ∧ Below w.heap.size w w' := by
 go_enter Tryz.func11, Tryz.ntmps11
 go_wp2
 go_returns
 exact ⟨rfl, by go_grown⟩
set_option maxHeartbeats 1000000 in
theorem rresok_any (t r : Int) (w : World) :
 Calls Tryz.prog 82 #[.agg #[.int .i64 t, .int .i64 r]] w fun e w' => e = .returned (.bool (resB t r)) ∧ w.alloc (.cells #[.int .i64 t, .int .i64 r] 23) = w' := by
 by_cases h1 : 1 ≤ t
 ·by_cases h2 : t ≤ 250
  ·by_cases h3 : 0 ≤ r
   ·by_cases h4 : r ≤ 250
    ·have hB : resB t r = true := by simp only [resB, h1, h2, h3, h4, and_self, decide_true]
     rw [hB]; clear hB
     go_enter Tryz.func82, Tryz.ntmps82
     go_wp2
     go_ret
     exact ⟨retb (by first | rfl | (simp; done) | (simp; omega)), rfl⟩
    ·have hB : resB t r = false := by simp only [resB, h4, and_false, decide_false]
     rw [hB]; clear hB
     go_enter Tryz.func82, Tryz.ntmps82
     go_wp2
     go_ret
     exact ⟨retb (by first | rfl | (simp; done) | (simp; omega)), rfl⟩
   ·have hB : resB t r = false := by simp only [resB, h3, and_false, false_and, decide_false]
    rw [hB]; clear hB
    go_enter Tryz.func82, Tryz.ntmps82
    go_wp2
    go_ret
    exact ⟨retb (by first | rfl | (simp; done) | (simp; omega)), rfl⟩
  ·have hB : resB t r = false := by simp only [resB, h2, and_false, false_and, decide_false]
   rw [hB]; clear hB
   go_enter Tryz.func82, Tryz.ntmps82
   go_wp2
   go_ret
   exact ⟨retb (by first | rfl | (simp; done) | (simp; omega)), rfl⟩
 ·have hB : resB t r = false := by simp only [resB, h1, false_and, decide_false]
  rw [hB]; clear hB
  go_enter Tryz.func82, Tryz.ntmps82
  go_wp2
  go_ret
  exact ⟨retb (by first | rfl | (simp; done) | (simp; omega)), rfl⟩
theorem ret_ent {E : Ent} {a b c d e f : Int} (h : E = ⟨a, b, c, d, e, f⟩) : Ending.returned (.agg #[.int .i64 a, .int .i64 b, .int .i64 c, .int .i64 d, .int .i64 e, .int .i64 f]) = .returned E.val := by
 subst h; rfl
set_option maxRecDepth 100000 in
set_option maxHeartbeats 8000000 in
theorem one_any (k a1 a2 a3 a4 : Int) (w : World) (h0 : 0 ≤ k) (h0' : k ≤ 255) (h1 : 0 ≤ a1) (h1' : a1 ≤ 255) (h2 : 0 ≤ a2) (h2' : a2 ≤ 255) (h3 : 0 ≤ a3) (h3' : a3 ≤ 255) (h4 : 0 ≤ a4) (h4' : a4 ≤ 255) :
 Calls Tryz.prog 71 #[.int .i64 k, .int .i64 a1, .int .i64 a2, .int .i64 a3, .int .i64 a4] w fun e w' => e = .returned (rdF k a1 a2 a3 a4).val ∧ Below w.heap.size w w' := by
 go_enter Tryz.func71, Tryz.ntmps71
 go_wp2_with (go_at_call 82; refine (rresok_any _ _ _).mono ?_; rintro e w' ⟨rfl, rfl⟩)
 all_goals go_returns
 all_goals refine ⟨ret_ent ?_, by go_grown⟩
 all_goals go_light
 all_goals (try simp only [resB, decide_eq_true_eq, beq_iff_eq, beq_eq_false_iff_ne] at *)
 all_goals (unfold rdF; repeat (first | rw [if_pos (by omega)] | rw [if_neg (by omega)]))
 all_goals (first | rfl | (rw [Ent.mk.injEq]; omega))
end Go.Proofs.YtjpjlfjaapfnkaaGreatDoor

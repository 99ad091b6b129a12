/-
  The model: its state in memory. No conditions beyond those that each theorem states.
-/
import Derived.Test.YtjpjlfjaapfnkaaGreatDoorDMB
import Derived.Test.YtjpjlfjaapfnkaaGreatDoorDMA
import Derived.LoopTactic
import Derived.Lib.Hide
import Derived.Maps.OwnOps
import Derived.Maps.Views
import Derived.DeepKeys4
import Derived.Deep.AppendLies
import Derived.Laws.Rows
import Derived.OneCell
import Derived.Maps.OwnSet
import Derived.BigQuiet
import Derived.BigRegion
import Derived.Deep.QuietTactic
set_option linter.unusedVariables false
set_option linter.unusedSimpArgs false
namespace Go.Proofs.YtjpjlfjaapfnkaaGreatDoor.C20
open Go.ChangeShapes Go.WideShapes Go.ChangeAt Go.RowKit
theorem mok_any (m : Int) (w : World) :
 Calls Tryz.prog 153 #[.int .i64 m] w fun e w' => e = .returned (.bool (okB m)) ∧ w = w' := by
 by_cases h : 0 ≤ m ∧ m ≤ 4
 ·have hB : okB m = true := by simp [okB, h]
  rw [hB]; clear hB
  obtain ⟨h0, h4⟩ := h
  go_enter Tryz.func153, Tryz.ntmps153
  go_wp2
  go_ret
  exact ⟨by simp, rfl⟩
 ·have hB : okB m = false := by simp only [okB, h, decide_false]
  rw [hB]; clear hB
  by_cases h0 : 0 ≤ m
  ·have h4 : ¬ m ≤ 4 := by omega
   clear h
   go_enter Tryz.func153, Tryz.ntmps153
   go_wp2
   go_ret
   exact ⟨by simp, rfl⟩
  ·clear h
   go_enter Tryz.func153, Tryz.ntmps153
   go_wp2
   go_ret
   exact ⟨by simp, rfl⟩
theorem retb {a b : Bool} (h : a = b) : Ending.returned (.bool a) = .returned (.bool b) := by rw [h]
set_option maxHeartbeats 1000000 in
theorem below_in (a : Int) (w : World) (ha : 0 ≤ a ∧ a ≤ 4) :
 Calls Tryz.prog 154 #[.int .i64 a] w fun e w' => e = .returned (.int .i64 (if a = 4 then 31 else if a = 3 then 11 else if a = 2 then 7 else if a = 1 then 3 else 1)) ∧ w = w' := by
 obtain rfl | rfl | rfl | rfl | rfl : a = 0 ∨ a = 1 ∨ a = 2 ∨ a = 3 ∨ a = 4 := by omega
 all_goals
  clear ha
  go_enter Tryz.func154, Tryz.ntmps154
  go_wp2
  go_ret
  exact ⟨rfl, rfl⟩
set_option maxHeartbeats 1000000 in
theorem below_out (a : Int) (w : World) (ha : ¬ (0 ≤ a ∧ a ≤ 4)) :
 Calls Tryz.prog 154 #[.int .i64 a] w fun e w' => e = .returned (.int .i64 0) ∧ w = w' := by
 have h0 : (a == 0) = false := by simp; omega
 have h1 : (a == 1) = false := by simp; omega
 have h2 : (a == 2) = false := by simp; omega
 have h3 : (a == 3) = false := by simp; omega
 have h4 : (a == 4) = false := by simp; omega
 clear ha
 go_enter Tryz.func154, Tryz.ntmps154
 go_wp2
 go_ret
 exact ⟨rfl, rfl⟩
set_option maxHeartbeats 1000000 in
theorem beside_in (a : Int) (w : World) (ha : 0 ≤ a ∧ a ≤ 4) :
 Calls Tryz.prog 156 #[.int .i64 a] w fun e w' => e = .returned (.int .i64 (if a = 4 then 1 else if a = 3 then 11 else if a = 2 then 7 else if a = 1 then 15 else 31)) ∧ w = w' := by
 obtain rfl | rfl | rfl | rfl | rfl : a = 0 ∨ a = 1 ∨ a = 2 ∨ a = 3 ∨ a = 4 := by omega
 all_goals
  clear ha
  go_enter Tryz.func156, Tryz.ntmps156
  go_wp2
  go_ret
  exact ⟨rfl, rfl⟩
set_option maxHeartbeats 1000000 in
theorem beside_out (a : Int) (w : World) (ha : ¬ (0 ≤ a ∧ a ≤ 4)) :
 Calls Tryz.prog 156 #[.int .i64 a] w fun e w' => e = .returned (.int .i64 0) ∧ w = w' := by
 have h0 : (a == 0) = false := by simp; omega
 have h1 : (a == 1) = false := by simp; omega
 have h2 : (a == 2) = false := by simp; omega
 have h3 : (a == 3) = false := by simp; omega
 have h4 : (a == 4) = false := by simp; omega
 clear ha
 go_enter Tryz.func156, Tryz.ntmps156
 go_wp2
 go_ret
 exact ⟨rfl, rfl⟩
set_option maxHeartbeats 4000000 in
theorem cov_in (a b : Int) (w : World) (ha : 0 ≤ a ∧ a ≤ 4) (hb : 0 ≤ b ∧ b ≤ 4) :
 Calls Tryz.prog 151 #[.int .i64 a, .int .i64 b] w fun e w' => e = .returned (.bool (covB a b)) ∧ w = w' := by
 obtain rfl | rfl | rfl | rfl | rfl : b = 0 ∨ b = 1 ∨ b = 2 ∨ b = 3 ∨ b = 4 := by omega
 all_goals
  clear hb
  obtain rfl | rfl | rfl | rfl | rfl : a = 0 ∨ a = 1 ∨ a = 2 ∨ a = 3 ∨ a = 4 := by omega
  all_goals
   clear ha
   go_enter Tryz.func151, Tryz.ntmps151
   go_wp2_with (first | (go_at_call 153; refine (mok_any _ _).mono ?_; rintro e w' ⟨rfl, rfl⟩) | (go_at_call 154; refine (below_in _ _ (by decide)).mono ?_; rintro e w' ⟨rfl, rfl⟩))
   go_ret
   exact ⟨retb (by decide +kernel), rfl⟩
set_option maxHeartbeats 4000000 in
theorem cov_left (a b : Int) (w : World) (ha : ¬ (0 ≤ a ∧ a ≤ 4)) (hb : 0 ≤ b ∧ b ≤ 4) :
 Calls Tryz.prog 151 #[.int .i64 a, .int .i64 b] w fun e w' => e = .returned (.bool false) ∧ w = w' := by
 obtain rfl | rfl | rfl | rfl | rfl : b = 0 ∨ b = 1 ∨ b = 2 ∨ b = 3 ∨ b = 4 := by omega
 all_goals
  clear hb
  have H := Lib.hid ha
  clear ha
  go_enter Tryz.func151, Tryz.ntmps151
  go_wp2_with (first | (go_at_call 153; refine (mok_any _ _).mono ?_; rintro e w' ⟨rfl, rfl⟩) | (go_at_call 154; refine (below_out _ _ H.out).mono ?_; rintro e w' ⟨rfl, rfl⟩))
  go_ret
  exact ⟨retb (by decide +kernel), rfl⟩
theorem cov_right (a b : Int) (w : World) (hb : ¬ (0 ≤ b ∧ b ≤ 4)) :
 Calls Tryz.prog 151 #[.int .i64 a, .int .i64 b] w fun e w' => e = .returned (.bool false) ∧ w = w' := by
 have hB : okB b = false := by simp only [okB, hb, decide_false]
 clear hb
 go_enter Tryz.func151, Tryz.ntmps151
 go_wp2_with (go_at_call 153; refine (mok_any _ _).mono ?_; rintro e w' ⟨rfl, rfl⟩)
 go_ret
 exact ⟨rfl, rfl⟩
theorem cov_any (a b : Int) (w : World) :
 Calls Tryz.prog 151 #[.int .i64 a, .int .i64 b] w fun e w' => e = .returned (.bool (covB a b)) ∧ w = w' := by
 by_cases hb : 0 ≤ b ∧ b ≤ 4
 ·by_cases ha : 0 ≤ a ∧ a ≤ 4
  ·exact cov_in a b w ha hb
  ·rw [covB_out (by omega)]; exact cov_left a b w ha hb
 ·rw [covB_out (by omega)]; exact cov_right a b w hb
set_option maxHeartbeats 4000000 in
theorem tog_in (a b : Int) (w : World) (ha : 0 ≤ a ∧ a ≤ 4) (hb : 0 ≤ b ∧ b ≤ 4) :
 Calls Tryz.prog 155 #[.int .i64 a, .int .i64 b] w fun e w' => e = .returned (.bool (togB a b)) ∧ w = w' := by
 obtain rfl | rfl | rfl | rfl | rfl : b = 0 ∨ b = 1 ∨ b = 2 ∨ b = 3 ∨ b = 4 := by omega
 all_goals
  clear hb
  obtain rfl | rfl | rfl | rfl | rfl : a = 0 ∨ a = 1 ∨ a = 2 ∨ a = 3 ∨ a = 4 := by omega
  all_goals
   clear ha
   go_enter Tryz.func155, Tryz.ntmps155
   go_wp2_with (first | (go_at_call 153; refine (mok_any _ _).mono ?_; rintro e w' ⟨rfl, rfl⟩) | (go_at_call 156; refine (beside_in _ _ (by decide)).mono ?_; rintro e w' ⟨rfl, rfl⟩))
   go_ret
   exact ⟨retb (by decide +kernel), rfl⟩
set_option maxHeartbeats 4000000 in
theorem tog_left (a b : Int) (w : World) (ha : ¬ (0 ≤ a ∧ a ≤ 4)) (hb : 0 ≤ b ∧ b ≤ 4) :
 Calls Tryz.prog 155 #[.int .i64 a, .int .i64 b] w fun e w' => e = .returned (.bool false) ∧ w = w' := by
 obtain rfl | rfl | rfl | rfl | rfl : b = 0 ∨ b = 1 ∨ b = 2 ∨ b = 3 ∨ b = 4 := by omega
 all_goals
  clear hb
  have H := Lib.hid ha
  clear ha
  go_enter Tryz.func155, Tryz.ntmps155
  go_wp2_with (first | (go_at_call 153; refine (mok_any _ _).mono ?_; rintro e w' ⟨rfl, rfl⟩) | (go_at_call 156; refine (beside_out _ _ H.out).mono ?_; rintro e w' ⟨rfl, rfl⟩))
  go_ret
  exact ⟨retb (by decide +kernel), rfl⟩
theorem tog_right (a b : Int) (w : World) (hb : ¬ (0 ≤ b ∧ b ≤ 4)) :
 Calls Tryz.prog 155 #[.int .i64 a, .int .i64 b] w fun e w' => e = .returned (.bool false) ∧ w = w' := by
 have hB : okB b = false := by simp only [okB, hb, decide_false]
 clear hb
 go_enter Tryz.func155, Tryz.ntmps155
 go_wp2_with (go_at_call 153; refine (mok_any _ _).mono ?_; rintro e w' ⟨rfl, rfl⟩)
 go_ret
 exact ⟨rfl, rfl⟩
theorem tog_any (a b : Int) (w : World) :
 Calls Tryz.prog 155 #[.int .i64 a, .int .i64 b] w fun e w' => e = .returned (.bool (togB a b)) ∧ w = w' := by
 by_cases hb : 0 ≤ b ∧ b ≤ 4
 ·by_cases ha : 0 ≤ a ∧ a ≤ 4
  ·exact tog_in a b w ha hb
  ·rw [togB_out (by omega)]; exact tog_left a b w ha hb
 ·rw [togB_out (by omega)]; exact tog_right a b w hb
def errV (k : Int) : Value := if k = 0 then .nilIface else .iface 70 (.int .i64 k)
theorem mneed_any (m : Int) (w : World) :
 Calls Tryz.prog 150 #[.int .i64 m] w fun e w' => e = .returned (.tuple #[.int .i64 (needI m), errV (needE m)]) ∧ w = w' := by
 by_cases h : 0 ≤ m ∧ m ≤ 4
 ·obtain rfl | rfl | rfl | rfl | rfl : m = 0 ∨ m = 1 ∨ m = 2 ∨ m = 3 ∨ m = 4 := by omega
  all_goals
   clear h
   go_enter Tryz.func150, Tryz.ntmps150
   go_wp2
   go_ret2
   exact ⟨rfl, rfl⟩
 ·have e1 : needI m = 0 := by unfold needI; rw [if_neg (by omega), if_neg (by omega)]
  have e2 : needE m = 1 := by unfold needE; rw [if_neg (by omega), if_neg h]
  rw [e1, e2]; clear e1 e2
  have h0 : (m == 0) = false := by simp; omega
  have h1 : (m == 1) = false := by simp; omega
  have h2 : (m == 2) = false := by simp; omega
  have h3 : (m == 3) = false := by simp; omega
  have h4 : (m == 4) = false := by simp; omega
  clear h
  go_enter Tryz.func150, Tryz.ntmps150
  go_wp2
  go_ret2
  exact ⟨rfl, rfl⟩
set_option maxHeartbeats 1000000 in
theorem mleast_ok (a b : Int) (w : World) (ha : 0 ≤ a ∧ a ≤ 4) (hb : 0 ≤ b ∧ b ≤ 4) :
 Calls Tryz.prog 149 #[.int .i64 a, .int .i64 b] w fun e w' => e = .returned (.tuple #[.int .i64 (leastI a b), .nilIface]) ∧ w = w' := by
 have hA : okB a = true := by simp [okB, ha]
 have hB : okB b = true := by simp [okB, hb]
 have HA := Lib.hid ha
 have HB := Lib.hid hb
 have HI := Lib.hid (leastI_in a b)
 clear ha hb
 go_enter Tryz.func149, Tryz.ntmps149
 go_wp2_with (go_at_call 153; refine (mok_any _ _).mono ?_; rintro e w' ⟨rfl, rfl⟩)
 clear hA hB
 go_loop [6] (fun v => ∃ m : Int, 0 ≤ m ∧ m ≤ 4 ∧ m ≤ leastI a b ∧ v = .int .i64 m) (fun v => (4 - intOf v).toNat)
 case atStart => exact ⟨0, by omega, by omega, HI.out.1, rfl⟩
 case round =>
  obtain ⟨m, hm0, hm4, hl, rfl⟩ := hrel
  have hi := HI.out.2
  by_cases h4 : m < 4
  ·obtain ⟨hy, hn⟩ := least_step a b m HA.out HB.out ⟨hm0, hm4⟩ hl
   have HY := Lib.hid hy
   have HN := Lib.hid hn
   clear hy hn
   cases hc : covB m a
   ·have hnx := HN.out (.inl hc)
    go_wp2_with (go_at_call 151; refine (cov_any _ _ _).mono ?_; rintro e w' ⟨rfl, rfl⟩)
    go_round
    case rel => exact ⟨m + 1, by omega, by omega, hnx, rfl⟩
    case measure => simp [intOf]; omega
   ·cases hd : covB m b
    ·have hnx := HN.out (.inr hd)
     go_wp2_with (go_at_call 151; refine (cov_any _ _ _).mono ?_; rintro e w' ⟨rfl, rfl⟩)
     go_round
     case rel => exact ⟨m + 1, by omega, by omega, hnx, rfl⟩
     case measure => simp [intOf]; omega
    ·have HE := Lib.hid (HY.out hc hd)
     go_wp2_with (go_at_call 151; refine (cov_any _ _ _).mono ?_; rintro e w' ⟨rfl, rfl⟩)
     go_ret2
     exact ⟨by rw [HE.out]; rfl, rfl⟩
  ·have HE : Hid (leastI a b = 4) := by show leastI a b = 4; omega
   go_wp2
   go_ret2
   exact ⟨by rw [HE.out]; rfl, rfl⟩
end Go.Proofs.YtjpjlfjaapfnkaaGreatDoor.C20
namespace Go.Proofs.YtjpjlfjaapfnkaaGreatDoor.C20
open Go.ChangeShapes Go.WideShapes Go.ChangeAt Go.RowKit Go.Maps
def Ev.none : Ev := ⟨0, 0, 0, 0, 0, 0, 0⟩
def Ev.cells (e : Ev) : List Value := [.int .i64 e.kind, .int .i64 e.client, .int .i64 e.tx, .int .i64 e.table, .int .i64 e.row, .int .i64 e.mode, .int .i64 e.code]
def Cells7 (w : World) (g o : Nat) (E : Ev) : Prop :=
 w.cell? ⟨g, o, Option.none⟩ = some (.int .i64 E.kind) ∧ w.cell? ⟨g, o + 1, Option.none⟩ = some (.int .i64 E.client) ∧ w.cell? ⟨g, o + 2, Option.none⟩ = some (.int .i64 E.tx) ∧ w.cell? ⟨g, o + 3, Option.none⟩ = some (.int .i64 E.table) ∧
 w.cell? ⟨g, o + 4, Option.none⟩ = some (.int .i64 E.row) ∧ w.cell? ⟨g, o + 5, Option.none⟩ = some (.int .i64 E.mode) ∧ w.cell? ⟨g, o + 6, Option.none⟩ = some (.int .i64 E.code)
theorem Cells7.below {w w1 : World} {g o : Nat} {E : Ev} (h : Cells7 w g o E) {B : Nat} (hb : Below B w w1) (hg : g < B) : Cells7 w1 g o E := by
 obtain ⟨a, b, c, d, e, f, i⟩ := h
 exact ⟨(hb.cell (p := ⟨g, _, Option.none⟩) hg).trans a, (hb.cell (p := ⟨g, _, Option.none⟩) hg).trans b, (hb.cell (p := ⟨g, _, Option.none⟩) hg).trans c, (hb.cell (p := ⟨g, _, Option.none⟩) hg).trans d, (hb.cell (p := ⟨g, _, Option.none⟩) hg).trans e, (hb.cell (p := ⟨g, _, Option.none⟩) hg).trans f, (hb.cell (p := ⟨g, _, Option.none⟩) hg).trans i⟩
def Ev.wf (e : Ev) : Prop := (Lit.int .i64 e.kind).wf = true ∧ (Lit.int .i64 e.client).wf = true ∧ (Lit.int .i64 e.tx).wf = true ∧ (Lit.int .i64 e.table).wf = true ∧ (Lit.int .i64 e.row).wf = true ∧ (Lit.int .i64 e.mode).wf = true ∧ (Lit.int .i64 e.code).wf = true
def RdE (w : World) (A : Option Addr) (es : List Ev) : Prop :=
 ∃ g off, (0 < es.length → A = some ⟨g, off, Option.none⟩ ∧ g < w.heap.size) ∧ ∀ i, i < es.length → Cells7 w g (off + i * 7) (es.getD i Ev.none)
theorem RdE.below {w w1 : World} {A : Option Addr} {es : List Ev} (h : RdE w A es) {B : Nat} (hb : Below B w w1) (hB : w.heap.size ≤ B) : RdE w1 A es := by
 obtain ⟨g, off, hA, hc⟩ := h
 exact ⟨g, off, fun hn => ⟨(hA hn).1, Nat.lt_of_lt_of_le (hA hn).2 hb.size⟩, fun i hi => (hc i hi).below hb (Nat.lt_of_lt_of_le (hA (by omega)).2 hB)⟩
theorem RdE.take {w : World} {A : Option Addr} {es : List Ev} (h : RdE w A es) (k : Nat) : RdE w A (es.take k) := by
 obtain ⟨g, off, hA, hc⟩ := h
 refine ⟨g, off, fun hn => hA (by simp at hn; omega), fun i hi => ?_⟩
 simp at hi
 have := hc i (by omega)
 rwa [show (es.take k).getD i Ev.none = es.getD i Ev.none by rw [List.getD_eq_getElem?_getD, List.getD_eq_getElem?_getD, List.getElem?_take_of_lt (by omega)]]
def evV (es : List Ev) : List Value := es.flatMap Ev.cells
def Got.cells (g : Got) : List Value := [.int .i64 g.table, .int .i64 g.row, .int .i64 g.mode, .int .i64 g.place]
def Got.none : Got := ⟨0, 0, 0, 0⟩
def flatG (l : List Got) : List Value := l.flatMap Got.cells
theorem flatG_length (l : List Got) : (flatG l).length = 4 * l.length := by
 induction l with
 | nil => rfl
 | cons e r ih => rw [show flatG (e :: r) = e.cells ++ flatG r from rfl, List.length_append, ih, show e.cells.length = 4 from rfl, List.length_cons]; omega
theorem flatG_snoc (l : List Got) (g : Got) : flatG (l ++ [g]) = flatG l ++ g.cells := by simp [flatG]
theorem flatG_get (es : List Got) (i j : Nat) (hi : i < es.length) (hj : j < 4) : (flatG es)[4 * i + j]? = (es.getD i Got.none).cells[j]? := by
 induction es generalizing i with
 | nil => simp at hi
 | cons e r ih =>
  rw [show flatG (e :: r) = e.cells ++ flatG r from rfl]
  have hl : e.cells.length = 4 := rfl
  cases i with
  | zero => rw [List.getElem?_append_left (by omega)]; simp
  | succ i =>
   rw [List.getElem?_append_right (by omega), hl, show 4 * (i + 1) + j - 4 = 4 * i + j from by omega, ih i (by simpa using hi)]
   simp
def CellsG (w : World) (g o : Nat) (E : Got) : Prop :=
 w.cell? ⟨g, o, Option.none⟩ = some (.int .i64 E.table) ∧ w.cell? ⟨g, o + 1, Option.none⟩ = some (.int .i64 E.row) ∧ w.cell? ⟨g, o + 2, Option.none⟩ = some (.int .i64 E.mode) ∧ w.cell? ⟨g, o + 3, Option.none⟩ = some (.int .i64 E.place)
theorem CellsG.below {w w1 : World} {g o : Nat} {E : Got} (h : CellsG w g o E) {B : Nat} (hb : Below B w w1) (hg : g < B) : CellsG w1 g o E := by
 obtain ⟨a, b, c, d⟩ := h
 exact ⟨(hb.cell (p := ⟨g, _, Option.none⟩) hg).trans a, (hb.cell (p := ⟨g, _, Option.none⟩) hg).trans b, (hb.cell (p := ⟨g, _, Option.none⟩) hg).trans c, (hb.cell (p := ⟨g, _, Option.none⟩) hg).trans d⟩
def RdG (w : World) (A : Option Addr) (es : List Got) : Prop :=
 ∃ g off, (0 < es.length → A = some ⟨g, off, Option.none⟩ ∧ g < w.heap.size) ∧ ∀ i, i < es.length → CellsG w g (off + i * 4) (es.getD i Got.none)
theorem RdG.below {w w1 : World} {A : Option Addr} {es : List Got} (h : RdG w A es) (hb : Below w.heap.size w w1) : RdG w1 A es := by
 obtain ⟨g, off, hA, hc⟩ := h
 exact ⟨g, off, fun hn => ⟨(hA hn).1, Nat.lt_of_lt_of_le (hA hn).2 hb.size⟩, fun i hi => (hc i hi).below hb (hA (by omega)).2⟩
theorem rdg_of_own {w : World} {B : Nat} {T : TypeId} {v : Value} {n : Nat} {es : List Got} (h : w.ownsRow B T 4 v n (flatG es)) : es.length = n ∧ ∃ A cap, v = .slice A n cap ∧ n ≤ cap ∧ RdG w A es := by
 have hl : es.length = n := by have := h.1; rw [flatG_length] at this; omega
 refine ⟨hl, ?_⟩
 rcases h.2 with ⟨rfl, h0⟩ | ⟨g, cap, cur, rfl, hg, hh, hc, _⟩
 ·subst h0
  have : es = [] := List.eq_nil_of_length_eq_zero hl
  subst this
  exact ⟨Option.none, 0, rfl, Nat.le_refl _, 0, 0, fun h => by simp at h, fun i h => by simp at h⟩
 ·refine ⟨_, cap, rfl, hc, g, 0, fun _ => ⟨rfl, (Array.getElem?_eq_some_iff.1 hh).1⟩, fun i hi => ?_⟩
  have hf := fun j hj => flatG_get es i j hi hj
  have hA : ∀ j u, j < 4 → (es.getD i Got.none).cells[j]? = some u → w.cell? ⟨g, 4 * i + j, Option.none⟩ = some u := by
   intro j u hj hu
   have := h.cells (g := g) rfl (4 * i + j) u ((hf j hj).trans hu)
   rwa [add0] at this
  rw [Nat.zero_add, Nat.mul_comm i 4]
  exact ⟨by simpa using hA 0 _ (by omega) rfl, hA 1 _ (by omega) rfl, hA 2 _ (by omega) rfl, hA 3 _ (by omega) rfl⟩
theorem laidOut20 : laidOutB Tryz.prog = true := by kernel_rfl
theorem resKeyed : Keyed Tryz.prog 23 := Keyed.of_law (deep_law_laid laidOut20 (m := 4) (by decide) (of_decide_eq_true (by kernel_rfl)) (by kernel_rfl) (by kernel_rfl))
def resK (t r : Int) : Lit := .string (keyBytes [.int .i64 t, .int .i64 r])
set_option maxRecDepth 100000 in
theorem keyOf_res {t r : Int} (ht : (Lit.int .i64 t).wf = true) (hr : (Lit.int .i64 r).wf = true) : keyOf Tryz.prog 23 (.agg #[.int .i64 t, .int .i64 r]) = some (resK t r) := by
 obtain ⟨m, hn⟩ : ∃ m, Tryz.prog.types.size + 1 = m + 2 := ⟨Tryz.prog.types.size - 1, by kernel_rfl⟩
 have hk : Tryz.prog.keyType 23 = true := by kernel_rfl
 have hc : Tryz.prog.cellsOf 23 = 2 := by kernel_rfl
 have hc1 : Tryz.prog.cellsOf 3 = 1 := by kernel_rfl
 have hu := Tryz.underlying23
 have hi := Tryz.underlying3
 unfold keyOf
 rw [hu]
 simp only []
 rw [if_pos (by simp [hk, Value.formed, hu, hc]), hn]
 generalize Tryz.prog = P at *
 simp [Program.keyLits, hu, Value.cells, hc, hc1, hi, ht, hr, resK]
theorem resK_inj {t r t' r' : Int} (ht : (Lit.int .i64 t).wf = true) (hr : (Lit.int .i64 r).wf = true) (ht' : (Lit.int .i64 t').wf = true) (hr' : (Lit.int .i64 r').wf = true) (h : resK t r = resK t' r') : t = t' ∧ r = r' := by
 have := resKeyed.inj (keyOf_res ht hr) (h ▸ keyOf_res ht' hr')
 simpa using this
def modeD (m : Int) : DataW Unit := .lit (.int .i64 m)
def gotD (l : List Got) : DataW Unit := l.foldl (fun D g => D.put (resK g.table g.row) (modeD g.mode)) (.map [])
theorem gotD_snoc (l : List Got) (g : Got) : gotD (l ++ [g]) = (gotD l).put (resK g.table g.row) (modeD g.mode) := by simp [gotD]
theorem modeOf_snoc (t r : Int) (l : List Got) (g : Got) : modeOf t r (l ++ [g]) = if g.table = t ∧ g.row = r then g.mode else modeOf t r l := by simp [modeOf]
theorem wf_of (n : Int) (h : -9223372036854775808 ≤ n ∧ n ≤ 9223372036854775807) : (Lit.int .i64 n).wf = true := by
 exact WalkArith.wf_i64 (by omega)
def GotOk (l : List Got) : Prop := ∀ g ∈ l, resB g.table g.row = true ∧ 0 ≤ g.mode ∧ g.mode ≤ 4
theorem res_wf {t r : Int} (h : resB t r = true) : (Lit.int .i64 t).wf = true ∧ (Lit.int .i64 r).wf = true := by
 unfold resB at h
 simp at h
 exact ⟨wf_of _ (by omega), wf_of _ (by omega)⟩
theorem snoc_ind {α : Type} {P : List α → Prop} (h0 : P []) (h1 : ∀ l a, P l → P (l ++ [a])) (l : List α) : P l := by
 rw [← List.reverse_reverse l]
 induction l.reverse with
 | nil => exact h0
 | cons a r ih => rw [List.reverse_cons]; exact h1 _ _ ih
theorem modeOf_in {l : List Got} (h : GotOk l) (t r : Int) : 0 ≤ modeOf t r l ∧ modeOf t r l ≤ 4 := by
 revert h
 refine snoc_ind (P := fun l => GotOk l → 0 ≤ modeOf t r l ∧ modeOf t r l ≤ 4) (fun _ => by simp [modeOf]) (fun l g ih h => ?_) l
 rw [modeOf_snoc]
 split
 ·exact (h g (by simp)).2
 ·exact ih (fun x hx => h x (by simp [hx]))
theorem isMap_put {D : DataW Unit} (h : IsMap D) (k : Lit) (d : DataW Unit) : IsMap (D.put k d) := by
 obtain ⟨es, rfl⟩ := h
 exact ⟨_, rfl⟩
theorem gotD_is (l : List Got) : IsMap (gotD l) :=
 snoc_ind (P := fun l => IsMap (gotD l)) ⟨[], rfl⟩ (fun l g ih => by rw [gotD_snoc]; exact isMap_put ih _ _) l
theorem gotD_at {l : List Got} (h : GotOk l) {t r : Int} (ht : (Lit.int .i64 t).wf = true) (hr : (Lit.int .i64 r).wf = true) : (gotD l).atKey (resK t r) (modeD 0) = modeD (modeOf t r l) := by
 revert h
 refine snoc_ind (P := fun l => GotOk l → (gotD l).atKey (resK t r) (modeD 0) = modeD (modeOf t r l)) (fun _ => rfl) (fun l g ih h => ?_) l
 have ih' := ih (fun x hx => h x (by simp [hx]))
 obtain ⟨h1, h2⟩ := h g (by simp)
 obtain ⟨w1, w2⟩ := res_wf h1
 rw [gotD_snoc, modeOf_snoc]
 by_cases he : g.table = t ∧ g.row = r
 ·rw [if_pos he]
  obtain ⟨rfl, rfl⟩ := he
  exact atKey_put_same (gotD_is l) (resKeyed.key (keyOf_res ht hr)) _ _
 ·rw [if_neg he]
  rw [atKey_put_other (fun e => he (by have := resK_inj ht hr w1 w2 e; exact ⟨this.1.symm, this.2.symm⟩))]
  exact ih'
theorem modeZero (w : World) : (zeroValue 31).run Tryz.prog w = .ok (.int .i64 0) w := by kernel_rfl
def HasX (w : World) (mb : Nat) (l : List Got) : Prop := w.ownsMap Tryz.prog 23 (plainElem Tryz.prog 31) mb l.length (gotD l)
theorem HasX.look {w : World} {mb : Nat} {l : List Got} (h : HasX w mb l) (hl : GotOk l) {t r : Int} (ht : (Lit.int .i64 t).wf = true) (hr : (Lit.int .i64 r).wf = true) :
 (Instr.lookup 220 (.map (some mb)) (.agg #[.int .i64 t, .int .i64 r]) false).run Tryz.prog w = .ok (.int .i64 (modeOf t r l)) w := by
 obtain ⟨c, hrun, hat, _⟩ := World.ownsMap.lookup_int h resKeyed Tryz.underlying220 Tryz.underlying31 (modeZero w) (keyOf_res ht hr)
 have := gotD_at hl ht hr
 unfold modeD at this
 rw [this] at hat
 have e : modeOf t r l = c := by simpa using hat
 rw [e]; exact hrun
end Go.Proofs.YtjpjlfjaapfnkaaGreatDoor.C20
namespace Go.Proofs.YtjpjlfjaapfnkaaGreatDoor.C20
open Go.ChangeShapes Go.WideShapes Go.ChangeAt Go.RowKit Go.Maps
set_option maxHeartbeats 1000000 in
theorem rok2_at (t r : Int) (w : World) (b : Bool) (h : resB t r = b) :
 Calls Tryz.prog 82 #[.agg #[.int .i64 t, .int .i64 r]] w fun e w' => e = .returned (.bool b) ∧ w.alloc (.cells #[.int .i64 t, .int .i64 r] 23) = w' := by
 subst h
 unfold resB
 go_enter Tryz.func82, Tryz.ntmps82
 by_cases h1 : 1 ≤ t
 ·by_cases h2 : t ≤ 250
  ·by_cases h3 : 0 ≤ r
   ·by_cases h4 : r ≤ 250
    ·go_wp2
     go_ret
     exact ⟨retb (by first | (simp [h1, h2, h3, h4]; done) | (simp [h1, h2, h3, h4]; omega) | omega), rfl⟩
    ·go_wp2
     go_ret
     exact ⟨retb (by simp; omega), rfl⟩
   ·go_wp2
    go_ret
    exact ⟨retb (by simp; omega), rfl⟩
  ·go_wp2
   go_ret
   exact ⟨retb (by simp; omega), rfl⟩
 ·go_wp2
  go_ret
  exact ⟨retb (by simp; omega), rfl⟩
end Go.Proofs.YtjpjlfjaapfnkaaGreatDoor.C20
namespace Go.Proofs.YtjpjlfjaapfnkaaGreatDoor.C20
open Go.ChangeShapes Go.WideShapes Go.ChangeAt Go.RowKit Go.Maps
theorem own_at {w w' : World} {B : Nat} {e : TypeId} {s n : Nat} {v : Value} {xs : List Value} (h : w.ownsRow B e s v n xs) (hb : ∀ k, v.ownBlock = some k → w'.heap[k]? = w.heap[k]?) : w'.ownsRow B e s v n xs := by
 rcases h.2 with ⟨rfl, h0⟩ | ⟨g, cap, cur, rfl, hg, hh, hc⟩
 ·exact ⟨h.1, .inl ⟨rfl, h0⟩⟩
 ·exact ⟨h.1, .inr ⟨g, cap, cur, rfl, hg, (hb g rfl).trans hh, hc⟩⟩
theorem has_at {w w' : World} {mb : Nat} {l : List Got} (h : HasX w mb l) (hb : w'.heap[mb]? = w.heap[mb]?) : HasX w' mb l := by
 obtain ⟨es, c, hh, r⟩ := h
 exact ⟨es, c, hb.trans hh, r⟩
theorem has_lt {w : World} {mb : Nat} {l : List Got} (h : HasX w mb l) : mb < w.heap.size := World.ownsMap.lt h
theorem lt_of_block {w : World} {g : Nat} {o : Obj} (h : w.heap[g]? = some o) : g < w.heap.size := (Array.getElem?_eq_some_iff.1 h).1
def retag (tag : Nat → Nat) (n T : Nat) : Nat → Nat := fun k => if k < n then tag k else T
theorem retag_old {tag : Nat → Nat} {n T k : Nat} (h : k < n) : retag tag n T k = tag k := if_pos h
theorem retag_new {tag : Nat → Nat} {n T k : Nat} (h : n ≤ k) : retag tag n T k = T := if_neg (by omega)
def oneC (x : Tx) (mb : Nat) (v : Value) : Array Value :=
 #[.int .i64 x.state, .int .i64 x.client, .int .i64 x.fin, .bool x.asked, .bool x.opn, .int .i64 x.table, .int .i64 x.row, .int .i64 x.mode, .map (some mb), v]
def TxAt (w : World) (B : Nat) (tag : Nat → Nat) (T b : Nat) (x : Tx) : Prop :=
 ∃ mb v, w.heap[b]? = some (.cells (oneC x mb v) 223 (0, 0)) ∧ HasX w mb x.got ∧ w.ownsRow B 238 4 v x.got.length (flatG x.got) ∧ B ≤ b ∧ B ≤ mb ∧ mb ≠ b ∧
  v.ownBlock ≠ some b ∧ v.ownBlock ≠ some mb ∧ tag b = T ∧ tag mb = T ∧ ∀ k, v.ownBlock = some k → tag k = T
theorem TxAt.keep {w w' : World} {B : Nat} {tag tag' : Nat → Nat} {T b : Nat} {x : Tx} (h : TxAt w B tag T b x) (hb : ∀ k, k < w.heap.size → tag k = T → w'.heap[k]? = w.heap[k]? ∧ tag' k = T) : TxAt w' B tag' T b x := by
 obtain ⟨mb, v, h1, h2, h3, h4, h5, h6, h7, h8, h9, h10, h11⟩ := h
 have lb := lt_of_block h1
 have lm := has_lt h2
 exact ⟨mb, v, (hb b lb h9).1.trans h1, has_at h2 (hb mb lm h10).1, own_at h3 (fun k hk => (hb k (h3.lt k hk).2 (h11 k hk)).1), h4, h5, h6, h7, h8, (hb b lb h9).2, (hb mb lm h10).2, fun k hk => (hb k (h3.lt k hk).2 (h11 k hk)).2⟩
theorem TxAt.at {w : World} {B : Nat} {tag : Nat → Nat} {T b : Nat} {x : Tx} (h : TxAt w B tag T b x) : ∃ mb A c, b < w.heap.size ∧ w.cell? ⟨b, 0, Option.none⟩ = some (.int .i64 x.state) ∧ w.cell? ⟨b, 1, Option.none⟩ = some (.int .i64 x.client) ∧ w.cell? ⟨b, 2, Option.none⟩ = some (.int .i64 x.fin) ∧ w.cell? ⟨b, 3, Option.none⟩ = some (.bool x.asked) ∧
 w.cell? ⟨b, 4, Option.none⟩ = some (.bool x.opn) ∧ w.cell? ⟨b, 5, Option.none⟩ = some (.int .i64 x.table) ∧ w.cell? ⟨b, 6, Option.none⟩ = some (.int .i64 x.row) ∧ w.cell? ⟨b, 7, Option.none⟩ = some (.int .i64 x.mode) ∧ w.cell? ⟨b, 8, Option.none⟩ = some (.map (some mb)) ∧
 w.cell? ⟨b, 9, Option.none⟩ = some (.slice A x.got.length c) ∧ HasX w mb x.got ∧ RdG w A x.got ∧ x.got.length ≤ c := by
 obtain ⟨mb, v, h1, h2, h3, _⟩ := h
 obtain ⟨_, A, c, rfl, hc, hr⟩ := rdg_of_own h3
 refine ⟨mb, A, c, lt_of_block h1, ?_, ?_, ?_, ?_, ?_, ?_, ?_, ?_, ?_, ?_, h2, hr, hc⟩ <;> simp [World.cell?, h1, oneC]
def ptrV (bs : List Nat) : List Value := bs.map fun b => .pointer (some ⟨b, 0, Option.none⟩)
def StAt (w : World) (B : Nat) (tag : Nat → Nat) (g : Nat) (s : St) (bs : List Nat) (va vs : Value) (cs : Array Value) : Prop :=
 w.heap[g]? = some (.cells cs 189 (0, 0)) ∧ cs.size = 20 ∧ cs[0]? = some va ∧ cs[19]? = some vs ∧ (∀ k, k < 9 → cs[1 + k]? = some (.bool (s.dead k))) ∧ (∀ k, k < 9 → ∃ p : Option Addr, cs[10 + k]? = some (.pointer p) ∧ p.isSome = s.now k) ∧
 B ≤ g ∧ tag g = 0 ∧ w.ownsRow B 186 1 va bs.length (ptrV bs) ∧ (∀ k, va.ownBlock = some k → tag k = 1) ∧ w.ownsRow B 3 1 vs s.serial.length (numV .i64 s.serial) ∧ (∀ k, vs.ownBlock = some k → tag k = 2) ∧
 bs.length = s.all.length ∧ ∀ i b x, bs[i]? = some b → s.all[i]? = some x → TxAt w B tag (3 + i) b x
def StX (w : World) (B : Nat) (tag : Nat → Nat) (g : Nat) (s : St) : Prop := ∃ bs va vs cs, StAt w B tag g s bs va vs cs
theorem StAt.below {w w' : World} {B : Nat} {tag : Nat → Nat} {g : Nat} {s : St} {bs : List Nat} {va vs : Value} {cs : Array Value} (h : StAt w B tag g s bs va vs cs) (hb : Below w.heap.size w w') : StAt w' B tag g s bs va vs cs := by
 obtain ⟨h1, h2, h3, h4, h5, h6, h7, h8, h9, h10, h11, h12, h13, h14⟩ := h
 exact ⟨(hb.block g (lt_of_block h1)).trans h1, h2, h3, h4, h5, h6, h7, h8, own_below h9 hb, h10, own_below h11 hb, h12, h13, fun i b x hi hx => (h14 i b x hi hx).keep fun k hk ht => ⟨hb.block k hk, ht⟩⟩
theorem StX.below {w w' : World} {B : Nat} {tag : Nat → Nat} {g : Nat} {s : St} (h : StX w B tag g s) (hb : Below w.heap.size w w') : StX w' B tag g s := by
 obtain ⟨bs, va, vs, cs, h⟩ := h
 exact ⟨bs, va, vs, cs, h.below hb⟩
theorem own1_cell {w : World} {B : Nat} {e : TypeId} {v : Value} {n : Nat} {xs : List Value} (h : w.ownsRow B e 1 v n xs) : xs.length = n ∧ ∃ g c, (0 < n → v = .slice (some ⟨g, 0, Option.none⟩) n c ∧ g < w.heap.size) ∧ (∃ A, v = .slice A n c) ∧ n ≤ c ∧ c ≤ maxLen ∧ ∀ i u, xs[i]? = some u → w.cell? ⟨g, i, Option.none⟩ = some u := by
 have hl := h.1
 rw [Nat.mul_one] at hl
 refine ⟨hl, ?_⟩
 rcases h.2 with ⟨rfl, h0⟩ | ⟨g, cap, cur, rfl, hg, hh, hc, hm, _⟩
 ·subst h0
  exact ⟨0, 0, fun h => absurd h (by decide), ⟨_, rfl⟩, Nat.le_refl _, Nat.zero_le _, fun i u hu => by rw [List.eq_nil_of_length_eq_zero hl] at hu; simp at hu⟩
 ·refine ⟨g, cap, fun _ => ⟨rfl, lt_of_block hh⟩, ⟨_, rfl⟩, hc, hm, fun i u hu => ?_⟩
  have := h.cells (g := g) rfl i u hu
  rwa [add0] at this
theorem StAt.at {w : World} {B : Nat} {tag : Nat → Nat} {g : Nat} {s : St} {bs : List Nat} {va vs : Value} {cs : Array Value} (h : StAt w B tag g s bs va vs cs) : g < w.heap.size ∧ w.cell? ⟨g, 0, Option.none⟩ = some va ∧ w.cell? ⟨g, 19, Option.none⟩ = some vs ∧ (∀ k, k < 9 → w.cell? ⟨g, 1 + k, Option.none⟩ = some (.bool (s.dead k))) ∧
 (∀ k, k < 9 → ∃ p : Option Addr, w.cell? ⟨g, 10 + k, Option.none⟩ = some (.pointer p) ∧ p.isSome = s.now k) := by
 obtain ⟨h1, h2, h3, h4, h5, h6, _⟩ := h
 refine ⟨lt_of_block h1, ?_, ?_, fun k hk => ?_, fun k hk => ?_⟩
 ·simpa [World.cell?, h1] using h3
 ·simpa [World.cell?, h1] using h4
 ·simpa [World.cell?, h1] using h5 k hk
 ·simpa [World.cell?, h1] using h6 k hk
theorem heap_set (w : World) (g j : Nat) (u : Value) (k : Nat) (h : k ≠ g) : (w.setCell ⟨g, j, Option.none⟩ u).heap[k]? = w.heap[k]? := Below.heap_setCell w ⟨g, j, Option.none⟩ u k h
end Go.Proofs.YtjpjlfjaapfnkaaGreatDoor.C20
namespace Go.Proofs.YtjpjlfjaapfnkaaGreatDoor.C20
structure TxOk (x : Tx) (n : Nat) : Prop where
 client : 1 ≤ x.client ∧ x.client ≤ 8
 mode : 0 ≤ x.mode ∧ x.mode ≤ 4
 got : GotOk x.got
 len : x.got.length ≤ n
structure StOk (s : St) (n : Nat) : Prop where
 tx : ∀ (i : Nat) (x : Tx), s.all[i]? = some x → TxOk x n
 len : s.all.length ≤ n
 slen : s.serial.length ≤ n
 ser : ∀ k ∈ s.serial, 1 ≤ k ∧ k ≤ s.all.length
theorem TxOk.up {x : Tx} {n : Nat} (h : TxOk x n) : TxOk x (n + 1) := ⟨h.client, h.mode, h.got, by have := h.len; omega⟩
theorem stok_start : StOk start 0 := ⟨fun i x h => by simp [start] at h, by simp [start], by simp [start], fun k h => by simp [start] at h⟩
theorem StOk.setx {s : St} {n : Nat} (h : StOk s n) (i : Nat) (x : Tx) (hx : TxOk x (n + 1)) (d nw : Nat → Bool) (ser : List Int) (hs : ser.length ≤ n + 1) (hm : ∀ k ∈ ser, 1 ≤ k ∧ k ≤ s.all.length) : StOk ⟨s.all.set i x, d, nw, ser⟩ (n + 1) := by
 refine ⟨fun j y hy => ?_, by have := h.len; simp; omega, hs, by simpa using hm⟩
 rw [List.getElem?_set] at hy
 split at hy
 ·split at hy
  ·cases hy; exact hx
  ·cases hy
 ·exact (h.tx j y hy).up
theorem StOk.get {s : St} {n : Nat} (h : StOk s n) {t : Int} (h1 : 1 ≤ t) (h2 : t ≤ s.all.length) : TxOk (s.tx t) n := by
 refine h.tx (t - 1).toNat _ ?_
 unfold St.tx
 rw [List.getD_eq_getElem?_getD, List.getElem?_eq_getElem (by omega)]
 rfl
theorem form_code {e : Ev} (h : formB e = true) : e.kind = 1 ∨ e.kind = 2 ∨ e.kind = 3 ∨ e.kind = 4 ∨ e.kind = 5 ∨ e.kind = 6 ∨ e.kind = 7 ∨ e.kind = 8 := by
 unfold formB at h
 by_cases h1 : e.kind = 1
 ·exact .inl h1
 by_cases h2 : e.kind = 2 ∨ e.kind = 3
 ·omega
 by_cases h4 : e.kind = 4
 ·omega
 by_cases h5 : e.kind = 5 ∨ e.kind = 6
 ·omega
 by_cases h7 : e.kind = 7
 ·omega
 by_cases h8 : e.kind = 8
 ·omega
 rw [if_neg h1, if_neg h2, if_neg h4, if_neg h5, if_neg h7, if_neg h8] at h
 cases h
theorem form_1 {e : Ev} (h : formB e = true) (k : e.kind = 1) : 1 ≤ e.client ∧ e.client ≤ 8 ∧ 1 ≤ e.tx := by
 unfold formB at h; simp [k] at h; omega
theorem form_8 {e : Ev} (h : formB e = true) (k : e.kind = 8) : 1 ≤ e.client ∧ e.client ≤ 8 ∧ e.tx = 0 := by
 unfold formB at h; simp [k] at h; omega
theorem form_23 {e : Ev} (h : formB e = true) (k : e.kind = 2 ∨ e.kind = 3) : 1 ≤ e.tx ∧ 1 ≤ e.mode ∧ e.mode ≤ 4 ∧ resB e.table e.row = true := by
 unfold formB at h; rw [if_neg (by omega), if_pos k] at h; simp at h; exact ⟨by omega, by omega, by omega, h.2⟩
theorem form_4 {e : Ev} (h : formB e = true) (k : e.kind = 4) : 1 ≤ e.tx := by
 unfold formB at h; simp [k] at h; omega
theorem form_567 {e : Ev} (h : formB e = true) (k : e.kind = 5 ∨ e.kind = 6 ∨ e.kind = 7) : 1 ≤ e.tx := by
 unfold formB at h; rcases k with k | k | k <;> simp [k] at h <;> omega
theorem form_tx {e : Ev} (h : formB e = true) (h8 : e.kind ≠ 8) : 1 ≤ e.tx := by
 rcases form_code h with k | k | k | k | k | k | k | k
 ·exact (form_1 h k).2.2
 ·exact (form_23 h (.inl k)).1
 ·exact (form_23 h (.inr k)).1
 ·exact form_4 h k
 ·exact form_567 h (by omega)
 ·exact form_567 h (by omega)
 ·exact form_567 h (by omega)
 ·exact absurd k h8
theorem next_tx {s : St} {e : Ev} {n : Int} (h0 : nextE s e n = 0) (h1 : e.kind ≠ 1) (h8 : e.kind ≠ 8) : formB e = true ∧ 1 ≤ e.tx ∧ e.tx ≤ s.all.length ∧ (s.tx e.tx).state ≠ 3 ∧ stepE s e n = 0 := by
 unfold nextE at h0
 cases hf : formB e with
 | false => rw [if_pos hf] at h0; exact absurd h0 (by decide)
 | true =>
  rw [if_neg (by simp [hf]), if_neg h1, if_neg h8] at h0
  by_cases hd : (s.all.length : Int) < e.tx ∨ (s.tx e.tx).state = 3
  ·rw [if_pos hd] at h0; exact absurd h0 (by decide)
  ·rw [if_neg hd] at h0
   exact ⟨rfl, form_tx hf h8, by omega, fun h => hd (.inr h), h0⟩
theorem next_form {s : St} {e : Ev} {n : Int} (h0 : nextE s e n = 0) : formB e = true := by
 unfold nextE at h0
 cases hf : formB e with
 | false => rw [if_pos hf] at h0; exact absurd h0 (by decide)
 | true => rfl
theorem StOk.next {s : St} {n : Nat} {e : Ev} (h : StOk s n) (h0 : nextE s e n = 0) : StOk (nextS s e n) (n + 1) := by
 have hf := next_form h0
 have hs : s.serial.length ≤ n + 1 := by have := h.slen; omega
 by_cases k1 : e.kind = 1
 ·unfold nextS
  rw [if_pos k1]
  have hc := form_1 hf k1
  refine ⟨fun i x hx => ?_, by have := h.len; simp; omega, hs, fun k hk => by have := h.ser k hk; simp; omega⟩
  simp only at hx
  rw [List.getElem?_append] at hx
  split at hx
  ·exact (h.tx i x hx).up
  ·rw [List.getElem?_singleton] at hx
   split at hx
   ·cases hx
    exact ⟨⟨hc.1, hc.2.1⟩, ⟨by simp [newTx], by simp [newTx]⟩, fun g hg => by simp [newTx] at hg, by simp [newTx]⟩
   ·cases hx
 by_cases k8 : e.kind = 8
 ·unfold nextS
  rw [if_neg k1, if_pos k8]
  exact ⟨fun i x hx => (h.tx i x hx).up, by have := h.len; simp; omega, hs, h.ser⟩
 obtain ⟨_, h1, h2, h3, h4⟩ := next_tx h0 k1 k8
 have hx := (h.get h1 h2).up
 unfold nextS
 rw [if_neg k1, if_neg k8]
 unfold stepS
 by_cases k2 : e.kind = 2
 ·simp only [k2, if_true]
  have := form_23 hf (.inl k2)
  refine h.setx _ _ ?_ _ _ _ hs h.ser
  exact ⟨hx.client, ⟨by show 0 ≤ e.mode; omega, this.2.2.1⟩, hx.got, hx.len⟩
 by_cases k3 : e.kind = 3
 ·rw [if_neg k2, if_pos k3]
  have := form_23 hf (.inr k3)
  refine h.setx _ _ ?_ _ _ _ hs h.ser
  refine ⟨hx.client, hx.mode, fun g hg => ?_, ?_⟩
  ·simp [Tx.grant] at hg
   rcases hg with hg | rfl
   ·exact hx.got g hg
   ·exact ⟨this.2.2.2, by simp; omega, this.2.2.1⟩
  ·have := (h.get h1 h2).len
   simp [Tx.grant]; omega
 by_cases k4 : e.kind = 4
 ·rw [if_neg k2, if_neg k3, if_pos k4]
  refine h.setx _ _ ?_ _ _ _ hs h.ser
  exact ⟨hx.client, hx.mode, hx.got, hx.len⟩
 by_cases k5 : e.kind = 5
 ·rw [if_neg k2, if_neg k3, if_neg k4, if_pos k5]
  refine h.setx _ _ ?_ _ _ _ hs h.ser
  exact ⟨hx.client, hx.mode, hx.got, hx.len⟩
 by_cases k6 : e.kind = 6
 ·rw [if_neg k2, if_neg k3, if_neg k4, if_neg k5, if_pos k6]
  refine h.setx _ _ (show TxOk _ _ from ?_) _ _ _ (by have := h.slen; simp; omega) (fun k hk => ?_)
  ·exact ⟨hx.client, hx.mode, hx.got, hx.len⟩
  simp at hk
  rcases hk with hk | rfl
  ·exact h.ser k hk
  ·omega
 ·rw [if_neg k2, if_neg k3, if_neg k4, if_neg k5, if_neg k6]
  refine h.setx _ _ ?_ _ _ _ hs h.ser
  exact ⟨hx.client, hx.mode, hx.got, hx.len⟩
end Go.Proofs.YtjpjlfjaapfnkaaGreatDoor.C20
namespace Go.Proofs.YtjpjlfjaapfnkaaGreatDoor.C20
open Go.ChangeShapes Go.WideShapes Go.ChangeAt Go.RowKit Go.Maps
def StepOf (w w' : World) (B g : Nat) (k : Int) (s : St) (e : Ending) : Prop := e = .returned (errV k) ∧ Below B w w' ∧ (k = 0 → ∃ tag, StX w' B tag g s)
theorem step_bad {w w' : World} {B g : Nat} {k k' : Int} {s : St} (hb : Below w.heap.size w w') (hB : B ≤ w.heap.size) (h : k' = k) (h0 : k ≠ 0) : StepOf w w' B g k' s (.returned (.iface 70 (.int .i64 k))) := by
 subst h
 exact ⟨by unfold errV; rw [if_neg h0], hb.mono hB, fun h => absurd h h0⟩
theorem step_ok {w w' : World} {B g : Nat} {k : Int} {s : St} {tag : Nat → Nat} (hb : Below B w w') (h : k = 0) (hs : StX w' B tag g s) : StepOf w w' B g k s (.returned .nilIface) := by
 subst h
 exact ⟨rfl, hb, fun _ => ⟨tag, hs⟩⟩
theorem StepOf.from {w w1 w' : World} {B g : Nat} {k : Int} {s : St} {e : Ending} (h : StepOf w1 w' B g k s e) (hb : Below w.heap.size w w1) (hB : B ≤ w.heap.size) : StepOf w w' B g k s e := ⟨h.1, (hb.mono hB).trans h.2.1, h.2.2⟩
theorem heap_cell {w : World} {g j : Nat} {cs : Array Value} {t : TypeId} {u : Value} (h : w.heap[g]? = some (.cells cs t (0, 0))) (hc : cs[j]? = some u) : w.cell? ⟨g, j, Option.none⟩ = some u := by simp [World.cell?, h, hc]
theorem heap_free {w : World} {g j : Nat} {cs : Array Value} {t : TypeId} (h : w.heap[g]? = some (.cells cs t (0, 0))) : w.frozen? ⟨g, j, Option.none⟩ = false := by simp [World.frozen?, h]
theorem heap_put (w : World) (g j : Nat) (cs : Array Value) (t : TypeId) (v : Value) (hg : w.heap[g]? = some (.cells cs t (0, 0))) : (w.setCell ⟨g, j, Option.none⟩ v).heap[g]? = some (.cells (cs.setIfInBounds j v) t (0, 0)) := heap_setCell_same w g j cs t v hg
theorem size_set (w : World) (a : Addr) (v : Value) : (w.setCell a v).heap.size = w.heap.size := by simp
theorem append_keep {w2 W w7 : World} {v : Value} {g : Nat} {o : Obj} (hg : W.grownBy w7 v.ownBlock) (hb : Below w2.heap.size w2 W) (hgb : w2.heap[g]? = some o) (hne : v.ownBlock ≠ some g) : w7.heap[g]? = some o := by
 have hl := (Array.getElem?_eq_some_iff.1 hgb).1
 exact (hg.block g (Nat.lt_of_lt_of_le hl hb.size) (fun e => hne e.symm)).trans ((hb.block g hl).trans hgb)
theorem append_other {w2 W w7 : World} {v : Value} {k : Nat} (hg : W.grownBy w7 v.ownBlock) (hb : Below w2.heap.size w2 W) (hk : k < w2.heap.size) (hne : v.ownBlock ≠ some k) : w7.heap[k]? = w2.heap[k]? :=
 (hg.block k (Nat.lt_of_lt_of_le hk hb.size) (fun e => hne e.symm)).trans (hb.block k hk)
theorem append_below {w w2 W w7 : World} {v : Value} {B : Nat} (hg : W.grownBy w7 v.ownBlock) (hb : Below w2.heap.size w2 W) (h : Below B w w2) (hB : B ≤ w2.heap.size) (hv : ∀ k, v.ownBlock = some k → B ≤ k) : Below B w w7 :=
 (h.trans (hb.mono hB)).grown hg (Nat.le_trans hB hb.size) hv
theorem TxAt.set {w w' : World} {B : Nat} {tag : Nat → Nat} {T b : Nat} {x y : Tx} {mb : Nat} {v : Value} (h2 : HasX w mb x.got) (h3 : w.ownsRow B 238 4 v x.got.length (flatG x.got)) (hr : B ≤ b ∧ B ≤ mb ∧ mb ≠ b ∧ v.ownBlock ≠ some b ∧ v.ownBlock ≠ some mb ∧ tag b = T ∧ tag mb = T ∧ ∀ k, v.ownBlock = some k → tag k = T)
 (hb : ∀ k, k < w.heap.size → k ≠ b → w'.heap[k]? = w.heap[k]?) (hx : w'.heap[b]? = some (.cells (oneC y mb v) 223 (0, 0))) (hy : y.got = x.got) : TxAt w' B tag T b y := by
 obtain ⟨r1, r2, r3, r4, r5, r6, r7, r8⟩ := hr
 exact ⟨mb, v, hx, by rw [hy]; exact has_at h2 (hb mb (has_lt h2) r3), by rw [hy]; exact own_at h3 (fun k hk => hb k (h3.lt k hk).2 (fun e => r4 (by rw [hk, e]))), r1, r2, r3, r4, r5, r6, r7, r8⟩
theorem StAt.put {w w' : World} {B : Nat} {tag tag' : Nat → Nat} {g : Nat} {s : St} {bs : List Nat} {va vs : Value} {cs : Array Value} (h : StAt w B tag g s bs va vs cs) {i b : Nat} {y : Tx} (hi : bs[i]? = some b)
 (hk : ∀ k, k < w.heap.size → tag k ≠ 3 + i → w'.heap[k]? = w.heap[k]? ∧ tag' k = tag k) (hy : TxAt w' B tag' (3 + i) b y) : StAt w' B tag' g ⟨s.all.set i y, s.dead, s.now, s.serial⟩ bs va vs cs := by
 obtain ⟨h1, h2, h3, h4, h5, h6, h7, h8, h9, h10, h11, h12, h13, h14⟩ := h
 have tg := hk g (lt_of_block h1) (by rw [h8]; omega)
 have ka := fun k (hk' : va.ownBlock = some k) => hk k (h9.lt k hk').2 (by rw [h10 k hk']; omega)
 have ks := fun k (hk' : vs.ownBlock = some k) => hk k (h11.lt k hk').2 (by rw [h12 k hk']; omega)
 refine ⟨tg.1.trans h1, h2, h3, h4, h5, h6, h7, tg.2.trans h8, own_at h9 (fun k e => (ka k e).1), fun k e => (ka k e).2.trans (h10 k e), own_at h11 (fun k e => (ks k e).1), fun k e => (ks k e).2.trans (h12 k e), by simpa using h13, fun j c x hj hx => ?_⟩
 simp only [List.getElem?_set] at hx
 by_cases hji : i = j
 ·subst hji
  rw [hi] at hj
  cases hj
  rw [if_pos rfl] at hx
  split at hx
  ·cases hx; exact hy
  ·cases hx
 ·rw [if_neg hji] at hx
  refine (h14 j c x hj hx).keep fun k hk1 hk2 => ?_
  have := hk k hk1 (by omega)
  exact ⟨this.1, this.2.trans hk2⟩
theorem StAt.setw {w w' : World} {B : Nat} {tag : Nat → Nat} {g : Nat} {s : St} {bs : List Nat} {va vs : Value} {cs cs' : Array Value} (h : StAt w B tag g s bs va vs cs) {d n : Nat → Bool} (hk : ∀ k, k < w.heap.size → k ≠ g → w'.heap[k]? = w.heap[k]?)
 (hg : w'.heap[g]? = some (.cells cs' 189 (0, 0))) (hc : cs'.size = 20 ∧ cs'[0]? = some va ∧ cs'[19]? = some vs ∧ (∀ k, k < 9 → cs'[1 + k]? = some (.bool (d k))) ∧ (∀ k, k < 9 → ∃ p : Option Addr, cs'[10 + k]? = some (.pointer p) ∧ p.isSome = n k)) : StAt w' B tag g ⟨s.all, d, n, s.serial⟩ bs va vs cs' := by
 obtain ⟨h1, h2, h3, h4, h5, h6, h7, h8, h9, h10, h11, h12, h13, h14⟩ := h
 obtain ⟨c1, c2, c3, c4, c5⟩ := hc
 have ng : ∀ k T, tag k = T + 1 → k ≠ g := fun k T e e' => by rw [e', h8] at e; omega
 refine ⟨hg, c1, c2, c3, c4, c5, h7, h8, own_at h9 (fun k e => hk k (h9.lt k e).2 (ng k 0 (h10 k e))), h10, own_at h11 (fun k e => hk k (h11.lt k e).2 (ng k 1 (h12 k e))), h12, h13, fun j c x hj hx => ?_⟩
 exact (h14 j c x hj hx).keep fun k hk1 hk2 => ⟨hk k hk1 (ng k (2 + j) (by omega)), hk2⟩
theorem StAt.same {w w' : World} {B : Nat} {tag : Nat → Nat} {g : Nat} {s : St} {bs : List Nat} {va vs : Value} {cs : Array Value} (h : StAt w B tag g s bs va vs cs) (hk : ∀ k, k < w.heap.size → w'.heap[k]? = w.heap[k]?) : StAt w' B tag g s bs va vs cs := by
 obtain ⟨h1, h2, h3, h4, h5, h6, h7, h8, h9, h10, h11, h12, h13, h14⟩ := h
 refine ⟨(hk g (lt_of_block h1)).trans h1, h2, h3, h4, h5, h6, h7, h8, own_at h9 (fun k e => hk k (h9.lt k e).2), h10, own_at h11 (fun k e => hk k (h11.lt k e).2), h12, h13, fun j c x hj hx => ?_⟩
 exact (h14 j c x hj hx).keep fun k hk1 hk2 => ⟨hk k hk1, hk2⟩
theorem off_at (f : Nat → Bool) (c k : Nat) (v : Bool) : off f c v k = if k = c then v else f k := by
 unfold off
 by_cases h : k = c
 ·rw [if_pos (by omega), if_pos h]
 ·rw [if_neg (by omega), if_neg h]
theorem StAt.setDead {w : World} {B : Nat} {tag : Nat → Nat} {g : Nat} {s : St} {bs : List Nat} {va vs : Value} {cs : Array Value} (h : StAt w B tag g s bs va vs cs) (c : Nat) (hc : c < 9) (v : Bool) : StAt (w.setCell ⟨g, 1 + c, Option.none⟩ (.bool v)) B tag g ⟨s.all, off s.dead c v, s.now, s.serial⟩ bs va vs (cs.setIfInBounds (1 + c) (.bool v)) := by
 have h0 := h
 obtain ⟨h1, h2, h3, h4, h5, h6, _⟩ := h
 refine h0.setw (fun k hk hne => heap_set w g _ _ k hne) (heap_put w g _ cs _ _ h1) ⟨by simpa using h2, ?_, ?_, fun k hk => ?_, fun k hk => ?_⟩
 ·rw [Array.getElem?_setIfInBounds_ne (by omega)]; exact h3
 ·rw [Array.getElem?_setIfInBounds_ne (by omega)]; exact h4
 ·rw [off_at]
  by_cases e : k = c
  ·subst e
   rw [if_pos rfl, Array.getElem?_setIfInBounds_self_of_lt (by omega)]
  ·rw [if_neg e, Array.getElem?_setIfInBounds_ne (by omega)]; exact h5 k hk
 ·rw [Array.getElem?_setIfInBounds_ne (by omega)]; exact h6 k hk
theorem StAt.setNow {w : World} {B : Nat} {tag : Nat → Nat} {g : Nat} {s : St} {bs : List Nat} {va vs : Value} {cs : Array Value} (h : StAt w B tag g s bs va vs cs) (c : Nat) (hc : c < 9) (p : Option Addr) : StAt (w.setCell ⟨g, 10 + c, Option.none⟩ (.pointer p)) B tag g ⟨s.all, s.dead, off s.now c p.isSome, s.serial⟩ bs va vs (cs.setIfInBounds (10 + c) (.pointer p)) := by
 have h0 := h
 obtain ⟨h1, h2, h3, h4, h5, h6, _⟩ := h
 refine h0.setw (fun k hk hne => heap_set w g _ _ k hne) (heap_put w g _ cs _ _ h1) ⟨by simpa using h2, ?_, ?_, fun k hk => ?_, fun k hk => ?_⟩
 ·rw [Array.getElem?_setIfInBounds_ne (by omega)]; exact h3
 ·rw [Array.getElem?_setIfInBounds_ne (by omega)]; exact h4
 ·rw [Array.getElem?_setIfInBounds_ne (by omega)]; exact h5 k hk
 ·rw [off_at]
  by_cases e : k = c
  ·subst e
   exact ⟨p, Array.getElem?_setIfInBounds_self_of_lt (by omega), by rw [if_pos rfl]⟩
  ·obtain ⟨q, h1, h2⟩ := h6 k hk
   exact ⟨q, by rw [Array.getElem?_setIfInBounds_ne (by omega)]; exact h1, by rw [if_neg e]; exact h2⟩
theorem StAt.setSer {w w7 : World} {B : Nat} {tag : Nat → Nat} {g : Nat} {s : St} {bs : List Nat} {va vs v' : Value} {cs : Array Value} {ser : List Int} (h : StAt w B tag g s bs va vs cs) (hg : w.grownBy w7 vs.ownBlock) (ho : w7.ownsRow B 3 1 v' ser.length (numV .i64 ser)) (hat : ∀ k, v'.ownBlock = some k → vs.ownBlock = some k ∨ w.heap.size ≤ k) :
 ∃ tag' cs', StAt (w7.setCell ⟨g, 19, Option.none⟩ v') B tag' g ⟨s.all, s.dead, s.now, ser⟩ bs va v' cs' := by
 obtain ⟨h1, h2, h3, h4, h5, h6, h7, h8, h9, h10, h11, h12, h13, h14⟩ := h
 have lg := lt_of_block h1
 have nv : ∀ k, tag k ≠ 2 → vs.ownBlock ≠ some k := fun k e e' => e (h12 k e')
 have kp : ∀ k, k < w.heap.size → tag k ≠ 2 → k ≠ g → (w7.setCell ⟨g, 19, Option.none⟩ v').heap[k]? = w.heap[k]? := fun k hk ht hne => (heap_set w7 g 19 v' k hne).trans (hg.block k hk (fun e => nv k ht e.symm))
 have g7 := (hg.block g lg (fun e => nv g (by rw [h8]; omega) e.symm)).trans h1
 have ng : ∀ k T, tag k = T + 1 → k ≠ g := fun k T e e' => by rw [e', h8] at e; omega
 have vg : v'.ownBlock ≠ some g := fun e => by
  rcases hat g e with h | h
  ·exact nv g (by rw [h8]; omega) h
  ·omega
 refine ⟨retag tag w.heap.size 2, cs.setIfInBounds 19 v', heap_put w7 g 19 cs _ v' g7, by simpa using h2, ?_, Array.getElem?_setIfInBounds_self_of_lt (by omega), fun k hk => ?_, fun k hk => ?_, h7, (retag_old lg).trans h8, own_at h9 (fun k e => kp k (h9.lt k e).2 (by rw [h10 k e]; omega) (ng k 0 (h10 k e))), fun k e => (retag_old (h9.lt k e).2).trans (h10 k e), ?_, fun k e => ?_, h13, fun j c x hj hx => ?_⟩
 ·rw [Array.getElem?_setIfInBounds_ne (by omega)]; exact h3
 ·rw [Array.getElem?_setIfInBounds_ne (by omega)]; exact h5 k hk
 ·rw [Array.getElem?_setIfInBounds_ne (by omega)]; exact h6 k hk
 ·exact own_at ho fun k e => heap_set w7 g 19 v' k (fun e' => vg (by rw [e, e']))
 ·rcases hat k e with h | h
  ·exact (retag_old (h11.lt k h).2).trans (h12 k h)
  ·exact retag_new h
 ·exact (h14 j c x hj hx).keep fun k hk1 hk2 => ⟨kp k hk1 (by omega) (ng k (2 + j) (by omega)), (retag_old hk1).trans hk2⟩
theorem StAt.more {w w1 w7 : World} {B : Nat} {tag : Nat → Nat} {g : Nat} {s : St} {bs : List Nat} {va vs v' : Value} {cs : Array Value} (h : StAt w B tag g s bs va vs cs) {b mb : Nat} {x : Tx} (hB : B ≤ w.heap.size) (h1w : Below w.heap.size w w1) (hb : w.heap.size ≤ b ∧ b < w1.heap.size ∧ w.heap.size ≤ mb ∧ mb < w1.heap.size ∧ mb ≠ b)
 (hx : w1.heap[b]? = some (.cells (oneC x mb (.slice none 0 0)) 223 (0, 0))) (hm : HasX w1 mb []) (hxg : x.got = []) (hg : w1.grownBy w7 va.ownBlock) (ho : w7.ownsRow B 186 1 v' (bs.length + 1) (ptrV bs ++ [.pointer (some ⟨b, 0, Option.none⟩)])) (hat : ∀ k, v'.ownBlock = some k → va.ownBlock = some k ∨ w1.heap.size ≤ k) :
 ∃ tag' cs', StAt (w7.setCell ⟨g, 0, Option.none⟩ v') B tag' g ⟨s.all ++ [x], s.dead, s.now, s.serial⟩ (bs ++ [b]) v' vs cs' := by
 obtain ⟨h1, h2, h3, h4, h5, h6, h7, h8, h9, h10, h11, h12, h13, h14⟩ := h
 have lg := lt_of_block h1
 have hs1 := h1w.size
 have nv : ∀ k, tag k ≠ 1 → va.ownBlock ≠ some k := fun k e e' => e (h10 k e')
 have kp : ∀ k, k < w.heap.size → tag k ≠ 1 → k ≠ g → (w7.setCell ⟨g, 0, Option.none⟩ v').heap[k]? = w.heap[k]? := fun k hk ht hne => (heap_set w7 g 0 v' k hne).trans ((hg.block k (by omega) (fun e => nv k ht e.symm)).trans (h1w.block k hk))
 have g7 := (hg.block g (by omega) (fun e => nv g (by rw [h8]; omega) e.symm)).trans ((h1w.block g lg).trans h1)
 have ng : ∀ k T, tag k = T + 1 → k ≠ g := fun k T e e' => by rw [e', h8] at e; omega
 have vl : ∀ k, va.ownBlock = some k → k < w.heap.size := fun k e => (h9.lt k e).2
 have vg : v'.ownBlock ≠ some g := fun e => by
  rcases hat g e with h | h
  ·exact nv g (by rw [h8]; omega) h
  ·omega
 let tag' := retag (retag tag w.heap.size (3 + bs.length)) w1.heap.size 1
 have to : ∀ k, k < w.heap.size → tag' k = tag k := fun k hk => (retag_old (by omega)).trans (retag_old hk)
 have tn : ∀ k, w.heap.size ≤ k → k < w1.heap.size → tag' k = 3 + bs.length := fun k hk hk' => (retag_old hk').trans (retag_new hk)
 have nb : ∀ k, w.heap.size ≤ k → k < w1.heap.size → (w7.setCell ⟨g, 0, Option.none⟩ v').heap[k]? = w1.heap[k]? := fun k hk hk' => (heap_set w7 g 0 v' k (by omega)).trans (hg.block k hk' (fun e => by have := vl k e.symm; omega))
 refine ⟨tag', cs.setIfInBounds 0 v', heap_put w7 g 0 cs _ v' g7, by simpa using h2, Array.getElem?_setIfInBounds_self_of_lt (by omega), ?_, fun k hk => ?_, fun k hk => ?_, h7, (to g lg).trans h8, ?_, fun k e => ?_, own_at h11 (fun k e => kp k (h11.lt k e).2 (by rw [h12 k e]; omega) (ng k 1 (h12 k e))), fun k e => (to k (h11.lt k e).2).trans (h12 k e), by simp [h13], fun j c y hj hy => ?_⟩
 ·rw [Array.getElem?_setIfInBounds_ne (by omega)]; exact h4
 ·rw [Array.getElem?_setIfInBounds_ne (by omega)]; exact h5 k hk
 ·rw [Array.getElem?_setIfInBounds_ne (by omega)]; exact h6 k hk
 ·have : ptrV (bs ++ [b]) = ptrV bs ++ [.pointer (some ⟨b, 0, Option.none⟩)] := by simp [ptrV]
  rw [this, List.length_append, List.length_singleton]
  exact own_at ho fun k e => heap_set w7 g 0 v' k (fun e' => vg (by rw [e, e']))
 ·rcases hat k e with h | h
  ·exact (to k (vl k h)).trans (h10 k h)
  ·exact retag_new h
 ·rw [List.getElem?_append] at hj
  split at hj
  ·next hlt =>
   rw [List.getElem?_append_left (by omega)] at hy
   exact (h14 j c y hj hy).keep fun k hk1 hk2 => ⟨kp k hk1 (by omega) (ng k (2 + j) (by omega)), (to k hk1).trans hk2⟩
  ·next hge =>
   rw [List.getElem?_singleton] at hj
   split at hj
   ·next he =>
    cases hj
    have hj' : j = bs.length := by omega
    subst hj'
    rw [h13, List.getElem?_append_right (Nat.le_refl _), Nat.sub_self] at hy
    simp at hy
    subst hy
    obtain ⟨b1, b2, b3, b4, b5⟩ := hb
    refine ⟨mb, .slice none 0 0, (nb b b1 b2).trans hx, by rw [hxg]; exact has_at hm (nb mb b3 b4), by rw [hxg]; exact ⟨rfl, .inl ⟨rfl, rfl⟩⟩, by omega, by omega, b5, by simp [Value.ownBlock], by simp [Value.ownBlock], tn b b1 b2, tn mb b3 b4, fun k e => by simp [Value.ownBlock] at e⟩
   ·cases hj
end Go.Proofs.YtjpjlfjaapfnkaaGreatDoor.C20
namespace Go.Proofs.YtjpjlfjaapfnkaaGreatDoor.C20
def after : St → List Ev → Nat → St
 | s, [], _ => s
 | s, e :: l, i => after (nextS s e i) l (i + 1)
def okF (s : St) (l : List Ev) (i : Nat) : Bool := match playF s l i with | .inl _ => true | .inr _ => false
theorem ok_nil (s : St) (i : Nat) : okF s [] i = true := rfl
theorem play_cons (s : St) (e : Ev) (l : List Ev) (i : Nat) : playF s (e :: l) i = if nextE s e i = 0 then playF (nextS s e i) l (i + 1) else .inr (i, nextE s e i) := rfl
theorem after_cons (s : St) (e : Ev) (l : List Ev) (i : Nat) : after s (e :: l) i = after (nextS s e i) l (i + 1) := rfl
theorem ok_cons (s : St) (e : Ev) (l : List Ev) (i : Nat) : okF s (e :: l) i = (decide (nextE s e i = 0) && okF (nextS s e i) l (i + 1)) := by
 unfold okF
 rw [play_cons]
 by_cases h : nextE s e i = 0
 ·rw [if_pos h]; simp [h]
 ·rw [if_neg h]; simp [h]
theorem play_ok {s : St} {l : List Ev} {i : Nat} (h : okF s l i = true) : playF s l i = .inl (after s l i).serial := by
 induction l generalizing s i with
 | nil => rfl
 | cons e r ih =>
  rw [ok_cons] at h
  simp at h
  rw [play_cons, after_cons, if_pos h.1]
  exact ih h.2
theorem ok_append (s : St) (a b : List Ev) (i : Nat) : okF s (a ++ b) i = (okF s a i && okF (after s a i) b (i + a.length)) := by
 induction a generalizing s i with
 | nil => simp [ok_nil, after]
 | cons e r ih =>
  rw [List.cons_append, ok_cons, ok_cons, ih, after_cons, List.length_cons, show i + 1 + r.length = i + (r.length + 1) by omega, Bool.and_assoc]
theorem after_append (s : St) (a b : List Ev) (i : Nat) : after s (a ++ b) i = after (after s a i) b (i + a.length) := by
 induction a generalizing s i with
 | nil => rfl
 | cons e r ih => rw [List.cons_append, after_cons, after_cons, ih, List.length_cons, show i + 1 + r.length = i + (r.length + 1) by omega]
theorem play_app {s : St} {a b : List Ev} {i : Nat} (h : okF s a i = true) : playF s (a ++ b) i = playF (after s a i) b (i + a.length) := by
 induction a generalizing s i with
 | nil => rfl
 | cons e r ih =>
  rw [ok_cons] at h
  simp at h
  rw [List.cons_append, play_cons, if_pos h.1, ih h.2, after_cons, List.length_cons, show i + 1 + r.length = i + (r.length + 1) by omega]
def codeE (k : Int) : Prop := k = 0 ∨ k = 5 ∨ k = 8 ∨ k = 11
theorem code_ite {c : Prop} [Decidable c] {a b : Int} (ha : codeE a) (hb : codeE b) : codeE (if c then a else b) := by split <;> assumption
theorem nextE_in (s : St) (e : Ev) (n : Int) : codeE (nextE s e n) := by
 unfold nextE stepE
 repeat' first | exact .inl rfl | exact .inr (.inl rfl) | exact .inr (.inr (.inl rfl)) | exact .inr (.inr (.inr rfl)) | apply code_ite
theorem stok_after {s : St} {l : List Ev} {i : Nat} (h : StOk s i) (ho : okF s l i = true) : StOk (after s l i) (i + l.length) := by
 induction l generalizing s i with
 | nil => exact h
 | cons e r ih =>
  rw [ok_cons] at ho
  simp at ho
  have := ih (h.next ho.1) ho.2
  rw [after_cons, List.length_cons, show i + (r.length + 1) = i + 1 + r.length by omega]
  exact this
end Go.Proofs.YtjpjlfjaapfnkaaGreatDoor.C20
namespace Go.Proofs.YtjpjlfjaapfnkaaGreatDoor.C20
open Go.ChangeShapes Go.WideShapes Go.ChangeAt Go.RowKit Go.Maps
theorem below_drewN {B : Nat} {a w : World} (h : Below B a w) : ∀ n, Below B a (w.drewN n)
 | n => ⟨h.os, h.tape, h.output, h.size, h.block⟩
theorem find_out (g : Nat) (A : Option Addr) (n c : Nat) (x : Int) (w : World) (h0 : w.cell? ⟨g, 0, none⟩ = some (.slice A n c)) (hx : (n : Int) < x) :
 Calls Tryz.prog 132 #[.pointer (some ⟨g, 0, none⟩), .int .i64 x] w fun e w' => e = .returned (.tuple #[.pointer none, .bool false]) ∧ Below w.heap.size w w' := by
 go_enter Tryz.func132, Tryz.ntmps132
 go_wp2
 go_ret2
 exact ⟨rfl, by go_grown⟩
theorem find_in (g a n c i b : Nat) (st : Int) (w : World) (h0 : w.cell? ⟨g, 0, none⟩ = some (.slice (some ⟨a, 0, none⟩) n c)) (hn : n ≤ 100000) (hi : i < n) (h1 : w.cell? ⟨a, i, none⟩ = some (.pointer (some ⟨b, 0, none⟩))) (h2 : w.cell? ⟨b, 0, none⟩ = some (.int .i64 st)) :
 Calls Tryz.prog 132 #[.pointer (some ⟨g, 0, none⟩), .int .i64 (i + 1)] w fun e w' => e = .returned (.tuple #[.pointer (some ⟨b, 0, none⟩), .bool (decide (st ≠ 3))]) ∧ Below w.heap.size w w' := by
 have k1 : ¬ (n : Int) < (i : Int) + 1 := by omega
 have k2 : (i : Int) < (n : Int) := by omega
 go_enter Tryz.func132, Tryz.ntmps132
 go_wp2
 go_quiet (fail)
 go_wp2
 go_ret2
 exact ⟨by by_cases h : st = 3 <;> simp [h], by first | exact below_drewN (Below.refl _ _) _ | go_grown⟩
theorem over_any (g b c : Nat) (v0 v1 : Value) (w : World) (hc : c ≤ 8) (h1 : w.cell? ⟨b, 1, none⟩ = some (.int .i64 c)) (h0 : w.cell? ⟨b, 0, none⟩ = some v0) (hg : w.cell? ⟨g, 10 + c, none⟩ = some v1) (hf : ∀ j, w.frozen? ⟨b, j, none⟩ = false) (hfg : ∀ j, w.frozen? ⟨g, j, none⟩ = false) (hne : b ≠ g) :
 Calls Tryz.prog 146 #[.pointer (some ⟨g, 0, none⟩), .pointer (some ⟨b, 0, none⟩)] w fun e w' => e = .returned (.tuple #[]) ∧ w'.heap = ((w.setCell ⟨b, 0, none⟩ (.int .i64 3)).setCell ⟨g, 10 + c, none⟩ (.pointer none)).heap ∧ Below 0 w w' := by
 have k2 : (c : Int) < 9 := by omega
 have k3 : ¬ (c : Int) < 0 := by omega
 have hne' : g ≠ b := fun h => hne h.symm
 go_enter Tryz.func146, Tryz.ntmps146
 go_wp2
 go_region
 refine ⟨rfl, .tuple #[], by simp [results, Tryz.results146, go_sem] <;> rfl, rfl, rfl, ⟨rfl, rfl, rfl, by simp, fun k hk => absurd hk (Nat.not_lt_zero _)⟩⟩
end Go.Proofs.YtjpjlfjaapfnkaaGreatDoor.C20

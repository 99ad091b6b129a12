/-
  text.ParseEntry; the document's examples. No conditions beyond those that each theorem states.
-/
import Derived.Test.YtjpjlfjaapfnkaaGreatDoorDMF
import Derived.Test.YtjpjlfjaapfnkaaGreatDoorDMN
import Derived.Test.YtjpjlfjaapfnkaaGreatDoorDML
import Derived.Test.YtjpjlfjaapfnkaaGreatDoorDMB
set_option linter.unusedVariables false
set_option linter.unusedSimpArgs false
namespace Go.Proofs.YtjpjlfjaapfnkaaGreatDoor
open Go.ChangeShapes Go.WideShapes Go.ChangeAt Go.RowKit
def enF (k : Nat) (ws : List (List UInt8)) : Ent :=
 if k = 0 ∨ k = 1 then ⟨(k : Int), 0, 0, 0, 0, 0⟩
 else if k = 3 then ⟨3, wordN (ws.headD []), (resR (ws.tail.headD [])).1, (resR (ws.tail.headD [])).2, modeT (ws.tail.tail.headD []), 0⟩
 else if k = 7 ∨ k = 8 ∨ k = 9 then ⟨(k : Int), 0, 0, 0, 0, wordN (ws.headD [])⟩
 else ⟨(k : Int), wordN (ws.headD []), 0, 0, 0, 0⟩
def enB (k : Nat) (ws : List (List UInt8)) : Bool :=
 if k = 0 ∨ k = 1 then false
 else if k = 3 then (numT (ws.headD [])).isNone || (resBad (ws.tail.headD []) || decide (modeT (ws.tail.tail.headD []) = 0))
 else (numT (ws.headD [])).isNone
def enRest (k : Nat) (ws : List (List UInt8)) : List (List UInt8) :=
 if k = 0 ∨ k = 1 then ws else if k = 3 then ws.tail.tail.tail else ws.tail
def Has6 (w : World) (B : Nat) (x0 x1 x2 x3 x4 x5 : Int) : Prop :=
 (w.cell? ⟨B, 0, none⟩ = some (.int .i64 x0) ∧ w.frozen? ⟨B, 0, none⟩ = false) ∧ (w.cell? ⟨B, 1, none⟩ = some (.int .i64 x1) ∧ w.frozen? ⟨B, 1, none⟩ = false) ∧ (w.cell? ⟨B, 2, none⟩ = some (.int .i64 x2) ∧ w.frozen? ⟨B, 2, none⟩ = false) ∧
 (w.cell? ⟨B, 3, none⟩ = some (.int .i64 x3) ∧ w.frozen? ⟨B, 3, none⟩ = false) ∧ (w.cell? ⟨B, 4, none⟩ = some (.int .i64 x4) ∧ w.frozen? ⟨B, 4, none⟩ = false) ∧ (w.cell? ⟨B, 5, none⟩ = some (.int .i64 x5) ∧ w.frozen? ⟨B, 5, none⟩ = false)
theorem Has6.kept {a b : World} {B r : Nat} {x0 x1 x2 x3 x4 x5 : Int} (h : Has6 a B x0 x1 x2 x3 x4 x5) (hg : a.grownBy b (some r)) (hB : B < a.heap.size) (hne : B ≠ r) : Has6 b B x0 x1 x2 x3 x4 x5 := by
 have hc := fun o => gb_cell (o := o) hg hB hne
 obtain ⟨⟨a0, b0⟩, ⟨a1, b1⟩, ⟨a2, b2⟩, ⟨a3, b3⟩, ⟨a4, b4⟩, ⟨a5, b5⟩⟩ := h
 exact ⟨⟨(hc 0).1.trans a0, (hc 0).2.trans b0⟩, ⟨(hc 1).1.trans a1, (hc 1).2.trans b1⟩, ⟨(hc 2).1.trans a2, (hc 2).2.trans b2⟩, ⟨(hc 3).1.trans a3, (hc 3).2.trans b3⟩, ⟨(hc 4).1.trans a4, (hc 4).2.trans b4⟩, ⟨(hc 5).1.trans a5, (hc 5).2.trans b5⟩⟩
theorem Has6.below {a b : World} {B : Nat} {x0 x1 x2 x3 x4 x5 : Int} (h : Has6 a B x0 x1 x2 x3 x4 x5) (hb : Below a.heap.size a b) (hB : B < a.heap.size) : Has6 b B x0 x1 x2 x3 x4 x5 := by
 have hc := fun o => hb.cell (p := ⟨B, o, none⟩) hB
 have hf := fun o => hb.frozen (p := ⟨B, o, none⟩) hB
 obtain ⟨⟨a0, b0⟩, ⟨a1, b1⟩, ⟨a2, b2⟩, ⟨a3, b3⟩, ⟨a4, b4⟩, ⟨a5, b5⟩⟩ := h
 exact ⟨⟨(hc 0).trans a0, (hf 0).trans b0⟩, ⟨(hc 1).trans a1, (hf 1).trans b1⟩, ⟨(hc 2).trans a2, (hf 2).trans b2⟩, ⟨(hc 3).trans a3, (hf 3).trans b3⟩, ⟨(hc 4).trans a4, (hf 4).trans b4⟩, ⟨(hc 5).trans a5, (hf 5).trans b5⟩⟩
theorem has6_new (w : World) (T : TypeId) (x0 x1 x2 x3 x4 x5 : Int) : Has6 (w.alloc (.cells #[.int .i64 x0, .int .i64 x1, .int .i64 x2, .int .i64 x3, .int .i64 x4, .int .i64 x5] T)) w.heap.size x0 x1 x2 x3 x4 x5 := by
 unfold Has6; refine ⟨⟨?_, ?_⟩, ⟨?_, ?_⟩, ⟨?_, ?_⟩, ⟨?_, ?_⟩, ⟨?_, ?_⟩, ⟨?_, ?_⟩⟩ <;> simp
theorem Has6.set {a : World} {B b o : Nat} {v : Value} {x0 x1 x2 x3 x4 x5 : Int} (h : Has6 a B x0 x1 x2 x3 x4 x5) (hne : B ≠ b) : Has6 (a.setCell ⟨b, o, none⟩ v) B x0 x1 x2 x3 x4 x5 := by
 obtain ⟨⟨a0, b0⟩, ⟨a1, b1⟩, ⟨a2, b2⟩, ⟨a3, b3⟩, ⟨a4, b4⟩, ⟨a5, b5⟩⟩ := h
 unfold Has6
 refine ⟨⟨?_, ?_⟩, ⟨?_, ?_⟩, ⟨?_, ?_⟩, ⟨?_, ?_⟩, ⟨?_, ?_⟩, ⟨?_, ?_⟩⟩ <;> simp [go_sem, hne, a0, b0, a1, b1, a2, b2, a3, b3, a4, b4, a5, b5]
def put6 (w : World) (B : Nat) (y0 y1 y2 y3 y4 y5 : Value) : World := (((((w.setCell ⟨B, 0, none⟩ y0).setCell ⟨B, 1, none⟩ y1).setCell ⟨B, 2, none⟩ y2).setCell ⟨B, 3, none⟩ y3).setCell ⟨B, 4, none⟩ y4).setCell ⟨B, 5, none⟩ y5
theorem put6_below {w : World} {B base : Nat} (h : base ≤ B) (y0 y1 y2 y3 y4 y5 : Value) : Below base w (put6 w B y0 y1 y2 y3 y4 y5) :=
 ((((((Below.refl _ _).setCell (p := ⟨B, 0, none⟩) h y0).setCell (p := ⟨B, 1, none⟩) h y1).setCell (p := ⟨B, 2, none⟩) h y2).setCell (p := ⟨B, 3, none⟩) h y3).setCell (p := ⟨B, 4, none⟩) h y4).setCell (p := ⟨B, 5, none⟩) h y5
theorem put6_gb {a w : World} {B : Nat} {r : Option Nat} (hg : a.grownBy w r) (h : a.heap.size ≤ B) (y0 y1 y2 y3 y4 y5 : Value) : a.grownBy (put6 w B y0 y1 y2 y3 y4 y5) r :=
 gb_new (gb_new (gb_new (gb_new (gb_new (gb_new hg h) h) h) h) h) h
theorem set6 {W : World} {b : Nat} {x0 x1 x2 x3 x4 x5 : Value} (h0 : W.cell? ⟨b, 0, none⟩ = some x0) (h1 : W.cell? ⟨b, 1, none⟩ = some x1) (h2 : W.cell? ⟨b, 2, none⟩ = some x2) (h3 : W.cell? ⟨b, 3, none⟩ = some x3) (h4 : W.cell? ⟨b, 4, none⟩ = some x4) (h5 : W.cell? ⟨b, 5, none⟩ = some x5) (y0 y1 y2 y3 y4 y5 : Value) :
 ((((((W.setCell ⟨b, 0, none⟩ y0).setCell ⟨b, 1, none⟩ y1).setCell ⟨b, 2, none⟩ y2).setCell ⟨b, 3, none⟩ y3).setCell ⟨b, 4, none⟩ y4).setCell ⟨b, 5, none⟩ y5).cell? ⟨b, 0, none⟩ = some y0 ∧
 ((((((W.setCell ⟨b, 0, none⟩ y0).setCell ⟨b, 1, none⟩ y1).setCell ⟨b, 2, none⟩ y2).setCell ⟨b, 3, none⟩ y3).setCell ⟨b, 4, none⟩ y4).setCell ⟨b, 5, none⟩ y5).cell? ⟨b, 1, none⟩ = some y1 ∧
 ((((((W.setCell ⟨b, 0, none⟩ y0).setCell ⟨b, 1, none⟩ y1).setCell ⟨b, 2, none⟩ y2).setCell ⟨b, 3, none⟩ y3).setCell ⟨b, 4, none⟩ y4).setCell ⟨b, 5, none⟩ y5).cell? ⟨b, 2, none⟩ = some y2 ∧
 ((((((W.setCell ⟨b, 0, none⟩ y0).setCell ⟨b, 1, none⟩ y1).setCell ⟨b, 2, none⟩ y2).setCell ⟨b, 3, none⟩ y3).setCell ⟨b, 4, none⟩ y4).setCell ⟨b, 5, none⟩ y5).cell? ⟨b, 3, none⟩ = some y3 ∧
 ((((((W.setCell ⟨b, 0, none⟩ y0).setCell ⟨b, 1, none⟩ y1).setCell ⟨b, 2, none⟩ y2).setCell ⟨b, 3, none⟩ y3).setCell ⟨b, 4, none⟩ y4).setCell ⟨b, 5, none⟩ y5).cell? ⟨b, 4, none⟩ = some y4 ∧
 ((((((W.setCell ⟨b, 0, none⟩ y0).setCell ⟨b, 1, none⟩ y1).setCell ⟨b, 2, none⟩ y2).setCell ⟨b, 3, none⟩ y3).setCell ⟨b, 4, none⟩ y4).setCell ⟨b, 5, none⟩ y5).cell? ⟨b, 5, none⟩ = some y5 := by
 simp [go_sem, h0, h1, h2, h3, h4, h5]
set_option maxRecDepth 100000 in
set_option maxHeartbeats 2000000 in
theorem en0_read (rb c base : Nat) (ws : List (List UInt8)) (bad : Bool) (W : World) (h : Rdr W rb base ws bad) (hT : TxW W) (hrb : 9 ≤ rb) (hs : ∀ w ∈ ws, w.length ≤ 140737488355328) (hc : W.cell? ⟨c, 0, none⟩ = some (.int .i64 0)) :
 Calls Tryz.prog 38 #[.pointer (some ⟨rb, 0, none⟩), .pointer (some ⟨c, 0, none⟩)] W fun e w' => e = .returned (.agg (entA (enF 0 ws))) ∧ Rdr w' rb base (enRest 0 ws) (bad || enB 0 ws) ∧ W.grownBy w' (some rb) := by
 have hb0 : Below W.heap.size W (W.alloc (.cells #[.int .i64 0, .int .i64 0, .int .i64 0, .int .i64 0, .int .i64 0, .int .i64 0] 33)) := (Below.refl _ _).alloc (Nat.le_refl _) _
 have hbA : Below W.heap.size W ((W.alloc (.cells #[.int .i64 0, .int .i64 0, .int .i64 0, .int .i64 0, .int .i64 0, .int .i64 0] 33)).alloc (.cells #[.int .i64 0, .int .i64 0, .int .i64 0, .int .i64 0, .int .i64 0, .int .i64 0] 33)) := hb0.alloc hb0.size _
 have hbF : Below W.heap.size W ((W.alloc (.cells #[.int .i64 0, .int .i64 0, .int .i64 0, .int .i64 0, .int .i64 0, .int .i64 0] 33)).alloc (.cells #[.int .i64 0, .int .i64 0, .int .i64 0, .int .i64 0, .int .i64 0, .int .i64 0] 33)) := ((Below.refl _ _).alloc (Nat.le_refl _) _).alloc (by simp) _
 have hca := cell_keep hb0 hc
 have hca1 := cell_keep hbA hc
 have HR := Lib.hid (h.below hbF)
 have HG := Lib.hid (gb_below (r := some rb) hbF)
 have HE := Lib.hid (show enF 0 ws = ⟨0, 0, 0, 0, 0, 0⟩ from by unfold enF; rw [if_pos (by decide)]; rfl)
 have HBE := Lib.hid (show (bad || enB 0 ws) = bad from by unfold enB; rw [if_pos (by decide)]; simp)
 clear h hT hs hbA hb0 hbF hc
 rw [HE.out, HBE.out, show enRest 0 ws = ws from rfl]
 unfold entA
 simp only
 go_enter Tryz.func38, Tryz.ntmps38
 go_wp2
 refine bodyPost_ret (by simp [results, Tryz.results38, go_sem] <;> rfl) rfl ?_
 exact ⟨rfl, HR.out, HG.out⟩
set_option maxRecDepth 100000 in
set_option maxHeartbeats 2000000 in
theorem en1_read (rb c base : Nat) (ws : List (List UInt8)) (bad : Bool) (W : World) (h : Rdr W rb base ws bad) (hT : TxW W) (hrb : 9 ≤ rb) (hs : ∀ w ∈ ws, w.length ≤ 140737488355328) (hc : W.cell? ⟨c, 0, none⟩ = some (.int .i64 1)) :
 Calls Tryz.prog 38 #[.pointer (some ⟨rb, 0, none⟩), .pointer (some ⟨c, 0, none⟩)] W fun e w' => e = .returned (.agg (entA (enF 1 ws))) ∧ Rdr w' rb base (enRest 1 ws) (bad || enB 1 ws) ∧ W.grownBy w' (some rb) := by
 have hb0 : Below W.heap.size W (W.alloc (.cells #[.int .i64 0, .int .i64 0, .int .i64 0, .int .i64 0, .int .i64 0, .int .i64 0] 33)) := (Below.refl _ _).alloc (Nat.le_refl _) _
 have hbA : Below W.heap.size W ((W.alloc (.cells #[.int .i64 0, .int .i64 0, .int .i64 0, .int .i64 0, .int .i64 0, .int .i64 0] 33)).alloc (.cells #[.int .i64 1, .int .i64 0, .int .i64 0, .int .i64 0, .int .i64 0, .int .i64 0] 33)) := hb0.alloc hb0.size _
 have hbF : Below W.heap.size W ((W.alloc (.cells #[.int .i64 1, .int .i64 0, .int .i64 0, .int .i64 0, .int .i64 0, .int .i64 0] 33)).alloc (.cells #[.int .i64 1, .int .i64 0, .int .i64 0, .int .i64 0, .int .i64 0, .int .i64 0] 33)) := ((Below.refl _ _).alloc (Nat.le_refl _) _).alloc (by simp) _
 have hca := cell_keep hb0 hc
 have hca1 := cell_keep hbA hc
 have HR := Lib.hid (h.below hbF)
 have HG := Lib.hid (gb_below (r := some rb) hbF)
 have HE := Lib.hid (show enF 1 ws = ⟨1, 0, 0, 0, 0, 0⟩ from by unfold enF; rw [if_pos (by decide)]; rfl)
 have HBE := Lib.hid (show (bad || enB 1 ws) = bad from by unfold enB; rw [if_pos (by decide)]; simp)
 clear h hT hs hbA hb0 hbF hc
 rw [HE.out, HBE.out, show enRest 1 ws = ws from rfl]
 unfold entA
 simp only
 go_enter Tryz.func38, Tryz.ntmps38
 go_wp2
 refine bodyPost_ret (by simp [results, Tryz.results38, go_sem] <;> rfl) rfl ?_
 exact ⟨rfl, HR.out, HG.out⟩
set_option maxRecDepth 100000 in
set_option maxHeartbeats 2000000 in
theorem en2_read (rb c base : Nat) (ws : List (List UInt8)) (bad : Bool) (W : World) (h : Rdr W rb base ws bad) (hT : TxW W) (hrb : 9 ≤ rb) (hs : ∀ w ∈ ws, w.length ≤ 140737488355328) (hc : W.cell? ⟨c, 0, none⟩ = some (.int .i64 2)) :
 Calls Tryz.prog 38 #[.pointer (some ⟨rb, 0, none⟩), .pointer (some ⟨c, 0, none⟩)] W fun e w' => e = .returned (.agg (entA (enF 2 ws))) ∧ Rdr w' rb base (enRest 2 ws) (bad || enB 2 ws) ∧ W.grownBy w' (some rb) := by
 have hb0 : Below W.heap.size W (W.alloc (.cells #[.int .i64 0, .int .i64 0, .int .i64 0, .int .i64 0, .int .i64 0, .int .i64 0] 33)) := (Below.refl _ _).alloc (Nat.le_refl _) _
 have hbA : Below W.heap.size W ((W.alloc (.cells #[.int .i64 0, .int .i64 0, .int .i64 0, .int .i64 0, .int .i64 0, .int .i64 0] 33)).alloc (.cells #[.int .i64 2, .int .i64 0, .int .i64 0, .int .i64 0, .int .i64 0, .int .i64 0] 33)) := hb0.alloc hb0.size _
 have hca := cell_keep hb0 hc
 have hca1 := cell_keep hbA hc
 have hz1 : (W.alloc (.cells #[.int .i64 0, .int .i64 0, .int .i64 0, .int .i64 0, .int .i64 0, .int .i64 0] 33)).heap.size = W.heap.size + 1 := by simp
 have HB := Lib.hid h.lt
 have HNE := Lib.hid (show W.heap.size ≠ rb from by have := h.lt; omega)
 have HNE1 := Lib.hid (show W.heap.size + 1 ≠ rb from by have := h.lt; omega)
 have HR0 := Lib.hid (h.below hbA)
 have HT0 := Lib.hid (hT.below hbA)
 have HG0 := Lib.hid (gb_below (r := some rb) hbA)
 have hx0 := (has6_new (W.alloc (.cells #[.int .i64 0, .int .i64 0, .int .i64 0, .int .i64 0, .int .i64 0, .int .i64 0] 33)) 33 2 0 0 0 0 0)
 rw [hz1] at hx0
 have HX0 := Lib.hid hx0
 have HZ0 := Lib.hid ((has6_new W 33 0 0 0 0 0 0).below (b := ((W.alloc (.cells #[.int .i64 0, .int .i64 0, .int .i64 0, .int .i64 0, .int .i64 0, .int .i64 0] 33)).alloc (.cells #[.int .i64 2, .int .i64 0, .int .i64 0, .int .i64 0, .int .i64 0, .int .i64 0] 33))) ((Below.refl _ _).alloc (Nat.le_refl _) _) (by simp))
 have HSZ := Lib.hid (show W.heap.size + 1 < ((W.alloc (.cells #[.int .i64 0, .int .i64 0, .int .i64 0, .int .i64 0, .int .i64 0, .int .i64 0] 33)).alloc (.cells #[.int .i64 2, .int .i64 0, .int .i64 0, .int .i64 0, .int .i64 0, .int .i64 0] 33)).heap.size from by simp)
 have HS := Lib.hid hs
 obtain ⟨v1, hv1⟩ : ∃ v, wordN (ws.headD []) = v := ⟨_, rfl⟩
 have HE := Lib.hid (show enF 2 ws = ⟨2, v1, 0, 0, 0, 0⟩ from by unfold enF; rw [if_neg (by decide), if_neg (by decide), if_neg (by decide)]; simp only [hv1]; try rfl)
 have HV1 := Lib.hid hv1
 clear h hT hs hbA hb0 hx0 hz1 hc hv1
 rw [HE.out]
 unfold entA
 simp only
 go_enter Tryz.func38, Tryz.ntmps38
 have HC1 := Lib.hid (num_read rb base (ws) (bad) _ HR0.out HT0.out hrb (heads HS.out 0))
 rw [HV1.out] at HC1
 go_wp2_with fail
 refine HC1.out.mono ?_
 rintro e w1 ⟨rfl, hr1, hg1⟩
 have HR1 := Lib.hid hr1
 have HT1 := Lib.hid (HT0.out.grown hg1 hrb)
 have HG1 := Lib.hid (gb_trans HG0.out hg1)
 have HZ1 := Lib.hid (HZ0.out.kept hg1 (Nat.lt_of_succ_lt HSZ.out) HNE.out)
 have HX1 := Lib.hid (HX0.out.kept hg1 HSZ.out HNE1.out)
 have HSZ1 := Lib.hid (Nat.lt_of_lt_of_le HSZ.out hg1.size)
 clear hr1 hg1 HC1
 obtain ⟨⟨x0, y0⟩, ⟨x1, y1⟩, ⟨x2, y2⟩, ⟨x3, y3⟩, ⟨x4, y4⟩, ⟨x5, y5⟩⟩ := HX1.out
 have hzz : Has6 (w1.setCell ⟨W.heap.size + 1, 1, none⟩ (.int .i64 v1)) W.heap.size 0 0 0 0 0 0 := (HZ1.out).set (by omega)
 obtain ⟨⟨r0, z0⟩, ⟨r1, z1⟩, ⟨r2, z2⟩, ⟨r3, z3⟩, ⟨r4, z4⟩, ⟨r5, z5⟩⟩ := hzz
 obtain ⟨q0, q1, q2', q3, q4, q5⟩ := set6 r0 r1 r2 r3 r4 r5 (.int .i64 2) (.int .i64 v1) (.int .i64 0) (.int .i64 0) (.int .i64 0) (.int .i64 0)
 go_wp2
 refine bodyPost_ret (by simp [results, Tryz.results38, go_sem, q0, q1, q2', q3, q4, q5] <;> rfl) rfl ?_
 refine ⟨rfl, ?_, put6_gb (gb_new (HG1.out) (Nat.le_succ _)) (Nat.le_refl _) (.int .i64 2) (.int .i64 v1) (.int .i64 0) (.int .i64 0) (.int .i64 0) (.int .i64 0)⟩
 have HBE := Lib.hid (show (bad || enB 2 ws) = (bad || (numT (ws.headD [])).isNone) from by unfold enB; rw [if_neg (by decide), if_neg (by decide)])
 rw [HBE.out, show enRest 2 ws = ws.tail from rfl]
 exact HR1.out.below' ((show Below base w1 (w1.setCell ⟨W.heap.size + 1, 1, none⟩ (.int .i64 v1)) from (Below.refl _ _).setCell (p := ⟨W.heap.size + 1, 1, none⟩) (Nat.le_trans HB.out.2 (Nat.le_succ _)) _).trans (put6_below (Nat.le_trans HB.out.2 (Nat.le_refl _)) (.int .i64 2) (.int .i64 v1) (.int .i64 0) (.int .i64 0) (.int .i64 0) (.int .i64 0)))
set_option maxRecDepth 100000 in
set_option maxHeartbeats 2000000 in
theorem en3_read (rb c base : Nat) (ws : List (List UInt8)) (bad : Bool) (W : World) (h : Rdr W rb base ws bad) (hT : TxW W) (hrb : 9 ≤ rb) (hs : ∀ w ∈ ws, w.length ≤ 140737488355328) (hc : W.cell? ⟨c, 0, none⟩ = some (.int .i64 3)) :
 Calls Tryz.prog 38 #[.pointer (some ⟨rb, 0, none⟩), .pointer (some ⟨c, 0, none⟩)] W fun e w' => e = .returned (.agg (entA (enF 3 ws))) ∧ Rdr w' rb base (enRest 3 ws) (bad || enB 3 ws) ∧ W.grownBy w' (some rb) := by
 have hb0 : Below W.heap.size W (W.alloc (.cells #[.int .i64 0, .int .i64 0, .int .i64 0, .int .i64 0, .int .i64 0, .int .i64 0] 33)) := (Below.refl _ _).alloc (Nat.le_refl _) _
 have hbA : Below W.heap.size W ((W.alloc (.cells #[.int .i64 0, .int .i64 0, .int .i64 0, .int .i64 0, .int .i64 0, .int .i64 0] 33)).alloc (.cells #[.int .i64 3, .int .i64 0, .int .i64 0, .int .i64 0, .int .i64 0, .int .i64 0] 33)) := hb0.alloc hb0.size _
 have hca := cell_keep hb0 hc
 have hca1 := cell_keep hbA hc
 have hz1 : (W.alloc (.cells #[.int .i64 0, .int .i64 0, .int .i64 0, .int .i64 0, .int .i64 0, .int .i64 0] 33)).heap.size = W.heap.size + 1 := by simp
 have HB := Lib.hid h.lt
 have HNE := Lib.hid (show W.heap.size ≠ rb from by have := h.lt; omega)
 have HNE1 := Lib.hid (show W.heap.size + 1 ≠ rb from by have := h.lt; omega)
 have HR0 := Lib.hid (h.below hbA)
 have HT0 := Lib.hid (hT.below hbA)
 have HG0 := Lib.hid (gb_below (r := some rb) hbA)
 have hx0 := (has6_new (W.alloc (.cells #[.int .i64 0, .int .i64 0, .int .i64 0, .int .i64 0, .int .i64 0, .int .i64 0] 33)) 33 3 0 0 0 0 0)
 rw [hz1] at hx0
 have HX0 := Lib.hid hx0
 have HZ0 := Lib.hid ((has6_new W 33 0 0 0 0 0 0).below (b := ((W.alloc (.cells #[.int .i64 0, .int .i64 0, .int .i64 0, .int .i64 0, .int .i64 0, .int .i64 0] 33)).alloc (.cells #[.int .i64 3, .int .i64 0, .int .i64 0, .int .i64 0, .int .i64 0, .int .i64 0] 33))) ((Below.refl _ _).alloc (Nat.le_refl _) _) (by simp))
 have HSZ := Lib.hid (show W.heap.size + 1 < ((W.alloc (.cells #[.int .i64 0, .int .i64 0, .int .i64 0, .int .i64 0, .int .i64 0, .int .i64 0] 33)).alloc (.cells #[.int .i64 3, .int .i64 0, .int .i64 0, .int .i64 0, .int .i64 0, .int .i64 0] 33)).heap.size from by simp)
 have HS := Lib.hid hs
 obtain ⟨v1, hv1⟩ : ∃ v, wordN (ws.headD []) = v := ⟨_, rfl⟩
 obtain ⟨⟨p2, q2⟩, hv2⟩ : ∃ v, resR (ws.tail.headD []) = v := ⟨_, rfl⟩
 obtain ⟨v3, hv3⟩ : ∃ v, modeT (ws.tail.tail.headD []) = v := ⟨_, rfl⟩
 have HE := Lib.hid (show enF 3 ws = ⟨3, v1, (p2 : Int), (q2 : Int), (v3 : Int), 0⟩ from by unfold enF; rw [if_neg (by decide), if_pos (by decide)]; simp only [hv1, hv2, hv3]; try rfl)
 have HV1 := Lib.hid hv1
 have HV2 := Lib.hid hv2
 have HV3 := Lib.hid hv3
 clear h hT hs hbA hb0 hx0 hz1 hc hv1 hv2 hv3
 rw [HE.out]
 unfold entA
 simp only
 go_enter Tryz.func38, Tryz.ntmps38
 have HC1 := Lib.hid (num_read rb base (ws) (bad) _ HR0.out HT0.out hrb (heads HS.out 0))
 rw [HV1.out] at HC1
 go_wp2_with fail
 refine HC1.out.mono ?_
 rintro e w1 ⟨rfl, hr1, hg1⟩
 have HR1 := Lib.hid hr1
 have HT1 := Lib.hid (HT0.out.grown hg1 hrb)
 have HG1 := Lib.hid (gb_trans HG0.out hg1)
 have HZ1 := Lib.hid (HZ0.out.kept hg1 (Nat.lt_of_succ_lt HSZ.out) HNE.out)
 have HX1 := Lib.hid (HX0.out.kept hg1 HSZ.out HNE1.out)
 have HSZ1 := Lib.hid (Nat.lt_of_lt_of_le HSZ.out hg1.size)
 clear hr1 hg1 HC1
 have HC2 := Lib.hid (place_read rb base (ws.tail) (bad || (numT (ws.headD [])).isNone) _ HR1.out HT1.out hrb (heads HS.out 1))
 rw [HV2.out] at HC2
 go_wp2_with fail
 refine HC2.out.mono ?_
 rintro e w2 ⟨rfl, hr2, hg2⟩
 have HR2 := Lib.hid hr2
 have HT2 := Lib.hid (HT1.out.grown hg2 hrb)
 have HG2 := Lib.hid (gb_trans HG1.out hg2)
 have HZ2 := Lib.hid (HZ1.out.kept hg2 (Nat.lt_of_succ_lt HSZ1.out) HNE.out)
 have HX2 := Lib.hid (HX1.out.kept hg2 HSZ1.out HNE1.out)
 have HSZ2 := Lib.hid (Nat.lt_of_lt_of_le HSZ1.out hg2.size)
 clear hr2 hg2 HC2
 have HC3 := Lib.hid (mode_read rb base (ws.tail.tail) (bad || (numT (ws.headD [])).isNone || resBad (ws.tail.headD [])) _ HR2.out HT2.out hrb)
 rw [HV3.out] at HC3
 go_wp2_with fail
 refine HC3.out.mono ?_
 rintro e w3 ⟨rfl, hr3, hg3⟩
 have HR3 := Lib.hid hr3
 have HT3 := Lib.hid (HT2.out.grown hg3 hrb)
 have HG3 := Lib.hid (gb_trans HG2.out hg3)
 have HZ3 := Lib.hid (HZ2.out.kept hg3 (Nat.lt_of_succ_lt HSZ2.out) HNE.out)
 have HX3 := Lib.hid (HX2.out.kept hg3 HSZ2.out HNE1.out)
 have HSZ3 := Lib.hid (Nat.lt_of_lt_of_le HSZ2.out hg3.size)
 clear hr3 hg3 HC3
 obtain ⟨⟨x0, y0⟩, ⟨x1, y1⟩, ⟨x2, y2⟩, ⟨x3, y3⟩, ⟨x4, y4⟩, ⟨x5, y5⟩⟩ := HX3.out
 have hzz : Has6 ((((w3.setCell ⟨W.heap.size + 1, 1, none⟩ (.int .i64 v1)).setCell ⟨W.heap.size + 1, 2, none⟩ (.int .i64 (p2 : Int))).setCell ⟨W.heap.size + 1, 3, none⟩ (.int .i64 (q2 : Int))).setCell ⟨W.heap.size + 1, 4, none⟩ (.int .i64 (v3 : Int))) W.heap.size 0 0 0 0 0 0 := ((((HZ3.out).set (by omega)).set (by omega)).set (by omega)).set (by omega)
 obtain ⟨⟨r0, z0⟩, ⟨r1, z1⟩, ⟨r2, z2⟩, ⟨r3, z3⟩, ⟨r4, z4⟩, ⟨r5, z5⟩⟩ := hzz
 obtain ⟨q0, q1, q2', q3, q4, q5⟩ := set6 r0 r1 r2 r3 r4 r5 (.int .i64 3) (.int .i64 v1) (.int .i64 (p2 : Int)) (.int .i64 (q2 : Int)) (.int .i64 (v3 : Int)) (.int .i64 0)
 go_wp2
 refine bodyPost_ret (by simp [results, Tryz.results38, go_sem, q0, q1, q2', q3, q4, q5] <;> rfl) rfl ?_
 refine ⟨rfl, ?_, put6_gb (gb_new ((gb_new ((gb_new ((gb_new (HG3.out) (Nat.le_succ _))) (Nat.le_succ _))) (Nat.le_succ _))) (Nat.le_succ _)) (Nat.le_refl _) (.int .i64 3) (.int .i64 v1) (.int .i64 (p2 : Int)) (.int .i64 (q2 : Int)) (.int .i64 (v3 : Int)) (.int .i64 0)⟩
 have HBE := Lib.hid (show (bad || enB 3 ws) = (bad || (numT (ws.headD [])).isNone || resBad (ws.tail.headD []) || decide (v3 = 0)) from by unfold enB; rw [if_neg (by decide), if_pos (by decide)]; simp only [Bool.or_assoc, HV3.out])
 rw [HBE.out, show enRest 3 ws = ws.tail.tail.tail from rfl]
 exact HR3.out.below' ((show Below base w3 ((((w3.setCell ⟨W.heap.size + 1, 1, none⟩ (.int .i64 v1)).setCell ⟨W.heap.size + 1, 2, none⟩ (.int .i64 (p2 : Int))).setCell ⟨W.heap.size + 1, 3, none⟩ (.int .i64 (q2 : Int))).setCell ⟨W.heap.size + 1, 4, none⟩ (.int .i64 (v3 : Int))) from ((((Below.refl _ _).setCell (p := ⟨W.heap.size + 1, 1, none⟩) (Nat.le_trans HB.out.2 (Nat.le_succ _)) _).setCell (p := ⟨W.heap.size + 1, 2, none⟩) (Nat.le_trans HB.out.2 (Nat.le_succ _)) _).setCell (p := ⟨W.heap.size + 1, 3, none⟩) (Nat.le_trans HB.out.2 (Nat.le_succ _)) _).setCell (p := ⟨W.heap.size + 1, 4, none⟩) (Nat.le_trans HB.out.2 (Nat.le_succ _)) _).trans (put6_below (Nat.le_trans HB.out.2 (Nat.le_refl _)) (.int .i64 3) (.int .i64 v1) (.int .i64 (p2 : Int)) (.int .i64 (q2 : Int)) (.int .i64 (v3 : Int)) (.int .i64 0)))
set_option maxRecDepth 100000 in
set_option maxHeartbeats 2000000 in
theorem en4_read (rb c base : Nat) (ws : List (List UInt8)) (bad : Bool) (W : World) (h : Rdr W rb base ws bad) (hT : TxW W) (hrb : 9 ≤ rb) (hs : ∀ w ∈ ws, w.length ≤ 140737488355328) (hc : W.cell? ⟨c, 0, none⟩ = some (.int .i64 4)) :
 Calls Tryz.prog 38 #[.pointer (some ⟨rb, 0, none⟩), .pointer (some ⟨c, 0, none⟩)] W fun e w' => e = .returned (.agg (entA (enF 4 ws))) ∧ Rdr w' rb base (enRest 4 ws) (bad || enB 4 ws) ∧ W.grownBy w' (some rb) := by
 have hb0 : Below W.heap.size W (W.alloc (.cells #[.int .i64 0, .int .i64 0, .int .i64 0, .int .i64 0, .int .i64 0, .int .i64 0] 33)) := (Below.refl _ _).alloc (Nat.le_refl _) _
 have hbA : Below W.heap.size W ((W.alloc (.cells #[.int .i64 0, .int .i64 0, .int .i64 0, .int .i64 0, .int .i64 0, .int .i64 0] 33)).alloc (.cells #[.int .i64 4, .int .i64 0, .int .i64 0, .int .i64 0, .int .i64 0, .int .i64 0] 33)) := hb0.alloc hb0.size _
 have hca := cell_keep hb0 hc
 have hca1 := cell_keep hbA hc
 have hz1 : (W.alloc (.cells #[.int .i64 0, .int .i64 0, .int .i64 0, .int .i64 0, .int .i64 0, .int .i64 0] 33)).heap.size = W.heap.size + 1 := by simp
 have HB := Lib.hid h.lt
 have HNE := Lib.hid (show W.heap.size ≠ rb from by have := h.lt; omega)
 have HNE1 := Lib.hid (show W.heap.size + 1 ≠ rb from by have := h.lt; omega)
 have HR0 := Lib.hid (h.below hbA)
 have HT0 := Lib.hid (hT.below hbA)
 have HG0 := Lib.hid (gb_below (r := some rb) hbA)
 have hx0 := (has6_new (W.alloc (.cells #[.int .i64 0, .int .i64 0, .int .i64 0, .int .i64 0, .int .i64 0, .int .i64 0] 33)) 33 4 0 0 0 0 0)
 rw [hz1] at hx0
 have HX0 := Lib.hid hx0
 have HZ0 := Lib.hid ((has6_new W 33 0 0 0 0 0 0).below (b := ((W.alloc (.cells #[.int .i64 0, .int .i64 0, .int .i64 0, .int .i64 0, .int .i64 0, .int .i64 0] 33)).alloc (.cells #[.int .i64 4, .int .i64 0, .int .i64 0, .int .i64 0, .int .i64 0, .int .i64 0] 33))) ((Below.refl _ _).alloc (Nat.le_refl _) _) (by simp))
 have HSZ := Lib.hid (show W.heap.size + 1 < ((W.alloc (.cells #[.int .i64 0, .int .i64 0, .int .i64 0, .int .i64 0, .int .i64 0, .int .i64 0] 33)).alloc (.cells #[.int .i64 4, .int .i64 0, .int .i64 0, .int .i64 0, .int .i64 0, .int .i64 0] 33)).heap.size from by simp)
 have HS := Lib.hid hs
 obtain ⟨v1, hv1⟩ : ∃ v, wordN (ws.headD []) = v := ⟨_, rfl⟩
 have HE := Lib.hid (show enF 4 ws = ⟨4, v1, 0, 0, 0, 0⟩ from by unfold enF; rw [if_neg (by decide), if_neg (by decide), if_neg (by decide)]; simp only [hv1]; try rfl)
 have HV1 := Lib.hid hv1
 clear h hT hs hbA hb0 hx0 hz1 hc hv1
 rw [HE.out]
 unfold entA
 simp only
 go_enter Tryz.func38, Tryz.ntmps38
 have HC1 := Lib.hid (num_read rb base (ws) (bad) _ HR0.out HT0.out hrb (heads HS.out 0))
 rw [HV1.out] at HC1
 go_wp2_with fail
 refine HC1.out.mono ?_
 rintro e w1 ⟨rfl, hr1, hg1⟩
 have HR1 := Lib.hid hr1
 have HT1 := Lib.hid (HT0.out.grown hg1 hrb)
 have HG1 := Lib.hid (gb_trans HG0.out hg1)
 have HZ1 := Lib.hid (HZ0.out.kept hg1 (Nat.lt_of_succ_lt HSZ.out) HNE.out)
 have HX1 := Lib.hid (HX0.out.kept hg1 HSZ.out HNE1.out)
 have HSZ1 := Lib.hid (Nat.lt_of_lt_of_le HSZ.out hg1.size)
 clear hr1 hg1 HC1
 obtain ⟨⟨x0, y0⟩, ⟨x1, y1⟩, ⟨x2, y2⟩, ⟨x3, y3⟩, ⟨x4, y4⟩, ⟨x5, y5⟩⟩ := HX1.out
 have hzz : Has6 (w1.setCell ⟨W.heap.size + 1, 1, none⟩ (.int .i64 v1)) W.heap.size 0 0 0 0 0 0 := (HZ1.out).set (by omega)
 obtain ⟨⟨r0, z0⟩, ⟨r1, z1⟩, ⟨r2, z2⟩, ⟨r3, z3⟩, ⟨r4, z4⟩, ⟨r5, z5⟩⟩ := hzz
 obtain ⟨q0, q1, q2', q3, q4, q5⟩ := set6 r0 r1 r2 r3 r4 r5 (.int .i64 4) (.int .i64 v1) (.int .i64 0) (.int .i64 0) (.int .i64 0) (.int .i64 0)
 go_wp2
 refine bodyPost_ret (by simp [results, Tryz.results38, go_sem, q0, q1, q2', q3, q4, q5] <;> rfl) rfl ?_
 refine ⟨rfl, ?_, put6_gb (gb_new (HG1.out) (Nat.le_succ _)) (Nat.le_refl _) (.int .i64 4) (.int .i64 v1) (.int .i64 0) (.int .i64 0) (.int .i64 0) (.int .i64 0)⟩
 have HBE := Lib.hid (show (bad || enB 4 ws) = (bad || (numT (ws.headD [])).isNone) from by unfold enB; rw [if_neg (by decide), if_neg (by decide)])
 rw [HBE.out, show enRest 4 ws = ws.tail from rfl]
 exact HR1.out.below' ((show Below base w1 (w1.setCell ⟨W.heap.size + 1, 1, none⟩ (.int .i64 v1)) from (Below.refl _ _).setCell (p := ⟨W.heap.size + 1, 1, none⟩) (Nat.le_trans HB.out.2 (Nat.le_succ _)) _).trans (put6_below (Nat.le_trans HB.out.2 (Nat.le_refl _)) (.int .i64 4) (.int .i64 v1) (.int .i64 0) (.int .i64 0) (.int .i64 0) (.int .i64 0)))
set_option maxRecDepth 100000 in
set_option maxHeartbeats 2000000 in
theorem en5_read (rb c base : Nat) (ws : List (List UInt8)) (bad : Bool) (W : World) (h : Rdr W rb base ws bad) (hT : TxW W) (hrb : 9 ≤ rb) (hs : ∀ w ∈ ws, w.length ≤ 140737488355328) (hc : W.cell? ⟨c, 0, none⟩ = some (.int .i64 5)) :
 Calls Tryz.prog 38 #[.pointer (some ⟨rb, 0, none⟩), .pointer (some ⟨c, 0, none⟩)] W fun e w' => e = .returned (.agg (entA (enF 5 ws))) ∧ Rdr w' rb base (enRest 5 ws) (bad || enB 5 ws) ∧ W.grownBy w' (some rb) := by
 have hb0 : Below W.heap.size W (W.alloc (.cells #[.int .i64 0, .int .i64 0, .int .i64 0, .int .i64 0, .int .i64 0, .int .i64 0] 33)) := (Below.refl _ _).alloc (Nat.le_refl _) _
 have hbA : Below W.heap.size W ((W.alloc (.cells #[.int .i64 0, .int .i64 0, .int .i64 0, .int .i64 0, .int .i64 0, .int .i64 0] 33)).alloc (.cells #[.int .i64 5, .int .i64 0, .int .i64 0, .int .i64 0, .int .i64 0, .int .i64 0] 33)) := hb0.alloc hb0.size _
 have hca := cell_keep hb0 hc
 have hca1 := cell_keep hbA hc
 have hz1 : (W.alloc (.cells #[.int .i64 0, .int .i64 0, .int .i64 0, .int .i64 0, .int .i64 0, .int .i64 0] 33)).heap.size = W.heap.size + 1 := by simp
 have HB := Lib.hid h.lt
 have HNE := Lib.hid (show W.heap.size ≠ rb from by have := h.lt; omega)
 have HNE1 := Lib.hid (show W.heap.size + 1 ≠ rb from by have := h.lt; omega)
 have HR0 := Lib.hid (h.below hbA)
 have HT0 := Lib.hid (hT.below hbA)
 have HG0 := Lib.hid (gb_below (r := some rb) hbA)
 have hx0 := (has6_new (W.alloc (.cells #[.int .i64 0, .int .i64 0, .int .i64 0, .int .i64 0, .int .i64 0, .int .i64 0] 33)) 33 5 0 0 0 0 0)
 rw [hz1] at hx0
 have HX0 := Lib.hid hx0
 have HZ0 := Lib.hid ((has6_new W 33 0 0 0 0 0 0).below (b := ((W.alloc (.cells #[.int .i64 0, .int .i64 0, .int .i64 0, .int .i64 0, .int .i64 0, .int .i64 0] 33)).alloc (.cells #[.int .i64 5, .int .i64 0, .int .i64 0, .int .i64 0, .int .i64 0, .int .i64 0] 33))) ((Below.refl _ _).alloc (Nat.le_refl _) _) (by simp))
 have HSZ := Lib.hid (show W.heap.size + 1 < ((W.alloc (.cells #[.int .i64 0, .int .i64 0, .int .i64 0, .int .i64 0, .int .i64 0, .int .i64 0] 33)).alloc (.cells #[.int .i64 5, .int .i64 0, .int .i64 0, .int .i64 0, .int .i64 0, .int .i64 0] 33)).heap.size from by simp)
 have HS := Lib.hid hs
 obtain ⟨v1, hv1⟩ : ∃ v, wordN (ws.headD []) = v := ⟨_, rfl⟩
 have HE := Lib.hid (show enF 5 ws = ⟨5, v1, 0, 0, 0, 0⟩ from by unfold enF; rw [if_neg (by decide), if_neg (by decide), if_neg (by decide)]; simp only [hv1]; try rfl)
 have HV1 := Lib.hid hv1
 clear h hT hs hbA hb0 hx0 hz1 hc hv1
 rw [HE.out]
 unfold entA
 simp only
 go_enter Tryz.func38, Tryz.ntmps38
 have HC1 := Lib.hid (num_read rb base (ws) (bad) _ HR0.out HT0.out hrb (heads HS.out 0))
 rw [HV1.out] at HC1
 go_wp2_with fail
 refine HC1.out.mono ?_
 rintro e w1 ⟨rfl, hr1, hg1⟩
 have HR1 := Lib.hid hr1
 have HT1 := Lib.hid (HT0.out.grown hg1 hrb)
 have HG1 := Lib.hid (gb_trans HG0.out hg1)
 have HZ1 := Lib.hid (HZ0.out.kept hg1 (Nat.lt_of_succ_lt HSZ.out) HNE.out)
 have HX1 := Lib.hid (HX0.out.kept hg1 HSZ.out HNE1.out)
 have HSZ1 := Lib.hid (Nat.lt_of_lt_of_le HSZ.out hg1.size)
 clear hr1 hg1 HC1
 obtain ⟨⟨x0, y0⟩, ⟨x1, y1⟩, ⟨x2, y2⟩, ⟨x3, y3⟩, ⟨x4, y4⟩, ⟨x5, y5⟩⟩ := HX1.out
 have hzz : Has6 (w1.setCell ⟨W.heap.size + 1, 1, none⟩ (.int .i64 v1)) W.heap.size 0 0 0 0 0 0 := (HZ1.out).set (by omega)
 obtain ⟨⟨r0, z0⟩, ⟨r1, z1⟩, ⟨r2, z2⟩, ⟨r3, z3⟩, ⟨r4, z4⟩, ⟨r5, z5⟩⟩ := hzz
 obtain ⟨q0, q1, q2', q3, q4, q5⟩ := set6 r0 r1 r2 r3 r4 r5 (.int .i64 5) (.int .i64 v1) (.int .i64 0) (.int .i64 0) (.int .i64 0) (.int .i64 0)
 go_wp2
 refine bodyPost_ret (by simp [results, Tryz.results38, go_sem, q0, q1, q2', q3, q4, q5] <;> rfl) rfl ?_
 refine ⟨rfl, ?_, put6_gb (gb_new (HG1.out) (Nat.le_succ _)) (Nat.le_refl _) (.int .i64 5) (.int .i64 v1) (.int .i64 0) (.int .i64 0) (.int .i64 0) (.int .i64 0)⟩
 have HBE := Lib.hid (show (bad || enB 5 ws) = (bad || (numT (ws.headD [])).isNone) from by unfold enB; rw [if_neg (by decide), if_neg (by decide)])
 rw [HBE.out, show enRest 5 ws = ws.tail from rfl]
 exact HR1.out.below' ((show Below base w1 (w1.setCell ⟨W.heap.size + 1, 1, none⟩ (.int .i64 v1)) from (Below.refl _ _).setCell (p := ⟨W.heap.size + 1, 1, none⟩) (Nat.le_trans HB.out.2 (Nat.le_succ _)) _).trans (put6_below (Nat.le_trans HB.out.2 (Nat.le_refl _)) (.int .i64 5) (.int .i64 v1) (.int .i64 0) (.int .i64 0) (.int .i64 0) (.int .i64 0)))
set_option maxRecDepth 100000 in
set_option maxHeartbeats 2000000 in
theorem en6_read (rb c base : Nat) (ws : List (List UInt8)) (bad : Bool) (W : World) (h : Rdr W rb base ws bad) (hT : TxW W) (hrb : 9 ≤ rb) (hs : ∀ w ∈ ws, w.length ≤ 140737488355328) (hc : W.cell? ⟨c, 0, none⟩ = some (.int .i64 6)) :
 Calls Tryz.prog 38 #[.pointer (some ⟨rb, 0, none⟩), .pointer (some ⟨c, 0, none⟩)] W fun e w' => e = .returned (.agg (entA (enF 6 ws))) ∧ Rdr w' rb base (enRest 6 ws) (bad || enB 6 ws) ∧ W.grownBy w' (some rb) := by
 have hb0 : Below W.heap.size W (W.alloc (.cells #[.int .i64 0, .int .i64 0, .int .i64 0, .int .i64 0, .int .i64 0, .int .i64 0] 33)) := (Below.refl _ _).alloc (Nat.le_refl _) _
 have hbA : Below W.heap.size W ((W.alloc (.cells #[.int .i64 0, .int .i64 0, .int .i64 0, .int .i64 0, .int .i64 0, .int .i64 0] 33)).alloc (.cells #[.int .i64 6, .int .i64 0, .int .i64 0, .int .i64 0, .int .i64 0, .int .i64 0] 33)) := hb0.alloc hb0.size _
 have hca := cell_keep hb0 hc
 have hca1 := cell_keep hbA hc
 have hz1 : (W.alloc (.cells #[.int .i64 0, .int .i64 0, .int .i64 0, .int .i64 0, .int .i64 0, .int .i64 0] 33)).heap.size = W.heap.size + 1 := by simp
 have HB := Lib.hid h.lt
 have HNE := Lib.hid (show W.heap.size ≠ rb from by have := h.lt; omega)
 have HNE1 := Lib.hid (show W.heap.size + 1 ≠ rb from by have := h.lt; omega)
 have HR0 := Lib.hid (h.below hbA)
 have HT0 := Lib.hid (hT.below hbA)
 have HG0 := Lib.hid (gb_below (r := some rb) hbA)
 have hx0 := (has6_new (W.alloc (.cells #[.int .i64 0, .int .i64 0, .int .i64 0, .int .i64 0, .int .i64 0, .int .i64 0] 33)) 33 6 0 0 0 0 0)
 rw [hz1] at hx0
 have HX0 := Lib.hid hx0
 have HZ0 := Lib.hid ((has6_new W 33 0 0 0 0 0 0).below (b := ((W.alloc (.cells #[.int .i64 0, .int .i64 0, .int .i64 0, .int .i64 0, .int .i64 0, .int .i64 0] 33)).alloc (.cells #[.int .i64 6, .int .i64 0, .int .i64 0, .int .i64 0, .int .i64 0, .int .i64 0] 33))) ((Below.refl _ _).alloc (Nat.le_refl _) _) (by simp))
 have HSZ := Lib.hid (show W.heap.size + 1 < ((W.alloc (.cells #[.int .i64 0, .int .i64 0, .int .i64 0, .int .i64 0, .int .i64 0, .int .i64 0] 33)).alloc (.cells #[.int .i64 6, .int .i64 0, .int .i64 0, .int .i64 0, .int .i64 0, .int .i64 0] 33)).heap.size from by simp)
 have HS := Lib.hid hs
 obtain ⟨v1, hv1⟩ : ∃ v, wordN (ws.headD []) = v := ⟨_, rfl⟩
 have HE := Lib.hid (show enF 6 ws = ⟨6, v1, 0, 0, 0, 0⟩ from by unfold enF; rw [if_neg (by decide), if_neg (by decide), if_neg (by decide)]; simp only [hv1]; try rfl)
 have HV1 := Lib.hid hv1
 clear h hT hs hbA hb0 hx0 hz1 hc hv1
 rw [HE.out]
 unfold entA
 simp only
 go_enter Tryz.func38, Tryz.ntmps38
 have HC1 := Lib.hid (num_read rb base (ws) (bad) _ HR0.out HT0.out hrb (heads HS.out 0))
 rw [HV1.out] at HC1
 go_wp2_with fail
 refine HC1.out.mono ?_
 rintro e w1 ⟨rfl, hr1, hg1⟩
 have HR1 := Lib.hid hr1
 have HT1 := Lib.hid (HT0.out.grown hg1 hrb)
 have HG1 := Lib.hid (gb_trans HG0.out hg1)
 have HZ1 := Lib.hid (HZ0.out.kept hg1 (Nat.lt_of_succ_lt HSZ.out) HNE.out)
 have HX1 := Lib.hid (HX0.out.kept hg1 HSZ.out HNE1.out)
 have HSZ1 := Lib.hid (Nat.lt_of_lt_of_le HSZ.out hg1.size)
 clear hr1 hg1 HC1
 obtain ⟨⟨x0, y0⟩, ⟨x1, y1⟩, ⟨x2, y2⟩, ⟨x3, y3⟩, ⟨x4, y4⟩, ⟨x5, y5⟩⟩ := HX1.out
 have hzz : Has6 (w1.setCell ⟨W.heap.size + 1, 1, none⟩ (.int .i64 v1)) W.heap.size 0 0 0 0 0 0 := (HZ1.out).set (by omega)
 obtain ⟨⟨r0, z0⟩, ⟨r1, z1⟩, ⟨r2, z2⟩, ⟨r3, z3⟩, ⟨r4, z4⟩, ⟨r5, z5⟩⟩ := hzz
 obtain ⟨q0, q1, q2', q3, q4, q5⟩ := set6 r0 r1 r2 r3 r4 r5 (.int .i64 6) (.int .i64 v1) (.int .i64 0) (.int .i64 0) (.int .i64 0) (.int .i64 0)
 go_wp2
 refine bodyPost_ret (by simp [results, Tryz.results38, go_sem, q0, q1, q2', q3, q4, q5] <;> rfl) rfl ?_
 refine ⟨rfl, ?_, put6_gb (gb_new (HG1.out) (Nat.le_succ _)) (Nat.le_refl _) (.int .i64 6) (.int .i64 v1) (.int .i64 0) (.int .i64 0) (.int .i64 0) (.int .i64 0)⟩
 have HBE := Lib.hid (show (bad || enB 6 ws) = (bad || (numT (ws.headD [])).isNone) from by unfold enB; rw [if_neg (by decide), if_neg (by decide)])
 rw [HBE.out, show enRest 6 ws = ws.tail from rfl]
 exact HR1.out.below' ((show Below base w1 (w1.setCell ⟨W.heap.size + 1, 1, none⟩ (.int .i64 v1)) from (Below.refl _ _).setCell (p := ⟨W.heap.size + 1, 1, none⟩) (Nat.le_trans HB.out.2 (Nat.le_succ _)) _).trans (put6_below (Nat.le_trans HB.out.2 (Nat.le_refl _)) (.int .i64 6) (.int .i64 v1) (.int .i64 0) (.int .i64 0) (.int .i64 0) (.int .i64 0)))
set_option maxRecDepth 100000 in
set_option maxHeartbeats 2000000 in
theorem en7_read (rb c base : Nat) (ws : List (List UInt8)) (bad : Bool) (W : World) (h : Rdr W rb base ws bad) (hT : TxW W) (hrb : 9 ≤ rb) (hs : ∀ w ∈ ws, w.length ≤ 140737488355328) (hc : W.cell? ⟨c, 0, none⟩ = some (.int .i64 7)) :
 Calls Tryz.prog 38 #[.pointer (some ⟨rb, 0, none⟩), .pointer (some ⟨c, 0, none⟩)] W fun e w' => e = .returned (.agg (entA (enF 7 ws))) ∧ Rdr w' rb base (enRest 7 ws) (bad || enB 7 ws) ∧ W.grownBy w' (some rb) := by
 have hb0 : Below W.heap.size W (W.alloc (.cells #[.int .i64 0, .int .i64 0, .int .i64 0, .int .i64 0, .int .i64 0, .int .i64 0] 33)) := (Below.refl _ _).alloc (Nat.le_refl _) _
 have hbA : Below W.heap.size W ((W.alloc (.cells #[.int .i64 0, .int .i64 0, .int .i64 0, .int .i64 0, .int .i64 0, .int .i64 0] 33)).alloc (.cells #[.int .i64 7, .int .i64 0, .int .i64 0, .int .i64 0, .int .i64 0, .int .i64 0] 33)) := hb0.alloc hb0.size _
 have hca := cell_keep hb0 hc
 have hca1 := cell_keep hbA hc
 have hz1 : (W.alloc (.cells #[.int .i64 0, .int .i64 0, .int .i64 0, .int .i64 0, .int .i64 0, .int .i64 0] 33)).heap.size = W.heap.size + 1 := by simp
 have HB := Lib.hid h.lt
 have HNE := Lib.hid (show W.heap.size ≠ rb from by have := h.lt; omega)
 have HNE1 := Lib.hid (show W.heap.size + 1 ≠ rb from by have := h.lt; omega)
 have HR0 := Lib.hid (h.below hbA)
 have HT0 := Lib.hid (hT.below hbA)
 have HG0 := Lib.hid (gb_below (r := some rb) hbA)
 have hx0 := (has6_new (W.alloc (.cells #[.int .i64 0, .int .i64 0, .int .i64 0, .int .i64 0, .int .i64 0, .int .i64 0] 33)) 33 7 0 0 0 0 0)
 rw [hz1] at hx0
 have HX0 := Lib.hid hx0
 have HZ0 := Lib.hid ((has6_new W 33 0 0 0 0 0 0).below (b := ((W.alloc (.cells #[.int .i64 0, .int .i64 0, .int .i64 0, .int .i64 0, .int .i64 0, .int .i64 0] 33)).alloc (.cells #[.int .i64 7, .int .i64 0, .int .i64 0, .int .i64 0, .int .i64 0, .int .i64 0] 33))) ((Below.refl _ _).alloc (Nat.le_refl _) _) (by simp))
 have HSZ := Lib.hid (show W.heap.size + 1 < ((W.alloc (.cells #[.int .i64 0, .int .i64 0, .int .i64 0, .int .i64 0, .int .i64 0, .int .i64 0] 33)).alloc (.cells #[.int .i64 7, .int .i64 0, .int .i64 0, .int .i64 0, .int .i64 0, .int .i64 0] 33)).heap.size from by simp)
 have HS := Lib.hid hs
 obtain ⟨v1, hv1⟩ : ∃ v, wordN (ws.headD []) = v := ⟨_, rfl⟩
 have HE := Lib.hid (show enF 7 ws = ⟨7, 0, 0, 0, 0, v1⟩ from by unfold enF; rw [if_neg (by decide), if_neg (by decide), if_pos (by decide)]; simp only [hv1]; try rfl)
 have HV1 := Lib.hid hv1
 clear h hT hs hbA hb0 hx0 hz1 hc hv1
 rw [HE.out]
 unfold entA
 simp only
 go_enter Tryz.func38, Tryz.ntmps38
 have HC1 := Lib.hid (num_read rb base (ws) (bad) _ HR0.out HT0.out hrb (heads HS.out 0))
 rw [HV1.out] at HC1
 go_wp2_with fail
 refine HC1.out.mono ?_
 rintro e w1 ⟨rfl, hr1, hg1⟩
 have HR1 := Lib.hid hr1
 have HT1 := Lib.hid (HT0.out.grown hg1 hrb)
 have HG1 := Lib.hid (gb_trans HG0.out hg1)
 have HZ1 := Lib.hid (HZ0.out.kept hg1 (Nat.lt_of_succ_lt HSZ.out) HNE.out)
 have HX1 := Lib.hid (HX0.out.kept hg1 HSZ.out HNE1.out)
 have HSZ1 := Lib.hid (Nat.lt_of_lt_of_le HSZ.out hg1.size)
 clear hr1 hg1 HC1
 obtain ⟨⟨x0, y0⟩, ⟨x1, y1⟩, ⟨x2, y2⟩, ⟨x3, y3⟩, ⟨x4, y4⟩, ⟨x5, y5⟩⟩ := HX1.out
 have hzz : Has6 (w1.setCell ⟨W.heap.size + 1, 5, none⟩ (.int .i64 v1)) W.heap.size 0 0 0 0 0 0 := (HZ1.out).set (by omega)
 obtain ⟨⟨r0, z0⟩, ⟨r1, z1⟩, ⟨r2, z2⟩, ⟨r3, z3⟩, ⟨r4, z4⟩, ⟨r5, z5⟩⟩ := hzz
 obtain ⟨q0, q1, q2', q3, q4, q5⟩ := set6 r0 r1 r2 r3 r4 r5 (.int .i64 7) (.int .i64 0) (.int .i64 0) (.int .i64 0) (.int .i64 0) (.int .i64 v1)
 go_wp2
 refine bodyPost_ret (by simp [results, Tryz.results38, go_sem, q0, q1, q2', q3, q4, q5] <;> rfl) rfl ?_
 refine ⟨rfl, ?_, put6_gb (gb_new (HG1.out) (Nat.le_succ _)) (Nat.le_refl _) (.int .i64 7) (.int .i64 0) (.int .i64 0) (.int .i64 0) (.int .i64 0) (.int .i64 v1)⟩
 have HBE := Lib.hid (show (bad || enB 7 ws) = (bad || (numT (ws.headD [])).isNone) from by unfold enB; rw [if_neg (by decide), if_neg (by decide)])
 rw [HBE.out, show enRest 7 ws = ws.tail from rfl]
 exact HR1.out.below' ((show Below base w1 (w1.setCell ⟨W.heap.size + 1, 5, none⟩ (.int .i64 v1)) from (Below.refl _ _).setCell (p := ⟨W.heap.size + 1, 5, none⟩) (Nat.le_trans HB.out.2 (Nat.le_succ _)) _).trans (put6_below (Nat.le_trans HB.out.2 (Nat.le_refl _)) (.int .i64 7) (.int .i64 0) (.int .i64 0) (.int .i64 0) (.int .i64 0) (.int .i64 v1)))
set_option maxRecDepth 100000 in
set_option maxHeartbeats 2000000 in
theorem en8_read (rb c base : Nat) (ws : List (List UInt8)) (bad : Bool) (W : World) (h : Rdr W rb base ws bad) (hT : TxW W) (hrb : 9 ≤ rb) (hs : ∀ w ∈ ws, w.length ≤ 140737488355328) (hc : W.cell? ⟨c, 0, none⟩ = some (.int .i64 8)) :
 Calls Tryz.prog 38 #[.pointer (some ⟨rb, 0, none⟩), .pointer (some ⟨c, 0, none⟩)] W fun e w' => e = .returned (.agg (entA (enF 8 ws))) ∧ Rdr w' rb base (enRest 8 ws) (bad || enB 8 ws) ∧ W.grownBy w' (some rb) := by
 have hb0 : Below W.heap.size W (W.alloc (.cells #[.int .i64 0, .int .i64 0, .int .i64 0, .int .i64 0, .int .i64 0, .int .i64 0] 33)) := (Below.refl _ _).alloc (Nat.le_refl _) _
 have hbA : Below W.heap.size W ((W.alloc (.cells #[.int .i64 0, .int .i64 0, .int .i64 0, .int .i64 0, .int .i64 0, .int .i64 0] 33)).alloc (.cells #[.int .i64 8, .int .i64 0, .int .i64 0, .int .i64 0, .int .i64 0, .int .i64 0] 33)) := hb0.alloc hb0.size _
 have hca := cell_keep hb0 hc
 have hca1 := cell_keep hbA hc
 have hz1 : (W.alloc (.cells #[.int .i64 0, .int .i64 0, .int .i64 0, .int .i64 0, .int .i64 0, .int .i64 0] 33)).heap.size = W.heap.size + 1 := by simp
 have HB := Lib.hid h.lt
 have HNE := Lib.hid (show W.heap.size ≠ rb from by have := h.lt; omega)
 have HNE1 := Lib.hid (show W.heap.size + 1 ≠ rb from by have := h.lt; omega)
 have HR0 := Lib.hid (h.below hbA)
 have HT0 := Lib.hid (hT.below hbA)
 have HG0 := Lib.hid (gb_below (r := some rb) hbA)
 have hx0 := (has6_new (W.alloc (.cells #[.int .i64 0, .int .i64 0, .int .i64 0, .int .i64 0, .int .i64 0, .int .i64 0] 33)) 33 8 0 0 0 0 0)
 rw [hz1] at hx0
 have HX0 := Lib.hid hx0
 have HZ0 := Lib.hid ((has6_new W 33 0 0 0 0 0 0).below (b := ((W.alloc (.cells #[.int .i64 0, .int .i64 0, .int .i64 0, .int .i64 0, .int .i64 0, .int .i64 0] 33)).alloc (.cells #[.int .i64 8, .int .i64 0, .int .i64 0, .int .i64 0, .int .i64 0, .int .i64 0] 33))) ((Below.refl _ _).alloc (Nat.le_refl _) _) (by simp))
 have HSZ := Lib.hid (show W.heap.size + 1 < ((W.alloc (.cells #[.int .i64 0, .int .i64 0, .int .i64 0, .int .i64 0, .int .i64 0, .int .i64 0] 33)).alloc (.cells #[.int .i64 8, .int .i64 0, .int .i64 0, .int .i64 0, .int .i64 0, .int .i64 0] 33)).heap.size from by simp)
 have HS := Lib.hid hs
 obtain ⟨v1, hv1⟩ : ∃ v, wordN (ws.headD []) = v := ⟨_, rfl⟩
 have HE := Lib.hid (show enF 8 ws = ⟨8, 0, 0, 0, 0, v1⟩ from by unfold enF; rw [if_neg (by decide), if_neg (by decide), if_pos (by decide)]; simp only [hv1]; try rfl)
 have HV1 := Lib.hid hv1
 clear h hT hs hbA hb0 hx0 hz1 hc hv1
 rw [HE.out]
 unfold entA
 simp only
 go_enter Tryz.func38, Tryz.ntmps38
 have HC1 := Lib.hid (num_read rb base (ws) (bad) _ HR0.out HT0.out hrb (heads HS.out 0))
 rw [HV1.out] at HC1
 go_wp2_with fail
 refine HC1.out.mono ?_
 rintro e w1 ⟨rfl, hr1, hg1⟩
 have HR1 := Lib.hid hr1
 have HT1 := Lib.hid (HT0.out.grown hg1 hrb)
 have HG1 := Lib.hid (gb_trans HG0.out hg1)
 have HZ1 := Lib.hid (HZ0.out.kept hg1 (Nat.lt_of_succ_lt HSZ.out) HNE.out)
 have HX1 := Lib.hid (HX0.out.kept hg1 HSZ.out HNE1.out)
 have HSZ1 := Lib.hid (Nat.lt_of_lt_of_le HSZ.out hg1.size)
 clear hr1 hg1 HC1
 obtain ⟨⟨x0, y0⟩, ⟨x1, y1⟩, ⟨x2, y2⟩, ⟨x3, y3⟩, ⟨x4, y4⟩, ⟨x5, y5⟩⟩ := HX1.out
 have hzz : Has6 (w1.setCell ⟨W.heap.size + 1, 5, none⟩ (.int .i64 v1)) W.heap.size 0 0 0 0 0 0 := (HZ1.out).set (by omega)
 obtain ⟨⟨r0, z0⟩, ⟨r1, z1⟩, ⟨r2, z2⟩, ⟨r3, z3⟩, ⟨r4, z4⟩, ⟨r5, z5⟩⟩ := hzz
 obtain ⟨q0, q1, q2', q3, q4, q5⟩ := set6 r0 r1 r2 r3 r4 r5 (.int .i64 8) (.int .i64 0) (.int .i64 0) (.int .i64 0) (.int .i64 0) (.int .i64 v1)
 go_wp2
 refine bodyPost_ret (by simp [results, Tryz.results38, go_sem, q0, q1, q2', q3, q4, q5] <;> rfl) rfl ?_
 refine ⟨rfl, ?_, put6_gb (gb_new (HG1.out) (Nat.le_succ _)) (Nat.le_refl _) (.int .i64 8) (.int .i64 0) (.int .i64 0) (.int .i64 0) (.int .i64 0) (.int .i64 v1)⟩
 have HBE := Lib.hid (show (bad || enB 8 ws) = (bad || (numT (ws.headD [])).isNone) from by unfold enB; rw [if_neg (by decide), if_neg (by decide)])
 rw [HBE.out, show enRest 8 ws = ws.tail from rfl]
 exact HR1.out.below' ((show Below base w1 (w1.setCell ⟨W.heap.size + 1, 5, none⟩ (.int .i64 v1)) from (Below.refl _ _).setCell (p := ⟨W.heap.size + 1, 5, none⟩) (Nat.le_trans HB.out.2 (Nat.le_succ _)) _).trans (put6_below (Nat.le_trans HB.out.2 (Nat.le_refl _)) (.int .i64 8) (.int .i64 0) (.int .i64 0) (.int .i64 0) (.int .i64 0) (.int .i64 v1)))
set_option maxRecDepth 100000 in
set_option maxHeartbeats 2000000 in
theorem en9_read (rb c base : Nat) (ws : List (List UInt8)) (bad : Bool) (W : World) (h : Rdr W rb base ws bad) (hT : TxW W) (hrb : 9 ≤ rb) (hs : ∀ w ∈ ws, w.length ≤ 140737488355328) (hc : W.cell? ⟨c, 0, none⟩ = some (.int .i64 9)) :
 Calls Tryz.prog 38 #[.pointer (some ⟨rb, 0, none⟩), .pointer (some ⟨c, 0, none⟩)] W fun e w' => e = .returned (.agg (entA (enF 9 ws))) ∧ Rdr w' rb base (enRest 9 ws) (bad || enB 9 ws) ∧ W.grownBy w' (some rb) := by
 have hb0 : Below W.heap.size W (W.alloc (.cells #[.int .i64 0, .int .i64 0, .int .i64 0, .int .i64 0, .int .i64 0, .int .i64 0] 33)) := (Below.refl _ _).alloc (Nat.le_refl _) _
 have hbA : Below W.heap.size W ((W.alloc (.cells #[.int .i64 0, .int .i64 0, .int .i64 0, .int .i64 0, .int .i64 0, .int .i64 0] 33)).alloc (.cells #[.int .i64 9, .int .i64 0, .int .i64 0, .int .i64 0, .int .i64 0, .int .i64 0] 33)) := hb0.alloc hb0.size _
 have hca := cell_keep hb0 hc
 have hca1 := cell_keep hbA hc
 have hz1 : (W.alloc (.cells #[.int .i64 0, .int .i64 0, .int .i64 0, .int .i64 0, .int .i64 0, .int .i64 0] 33)).heap.size = W.heap.size + 1 := by simp
 have HB := Lib.hid h.lt
 have HNE := Lib.hid (show W.heap.size ≠ rb from by have := h.lt; omega)
 have HNE1 := Lib.hid (show W.heap.size + 1 ≠ rb from by have := h.lt; omega)
 have HR0 := Lib.hid (h.below hbA)
 have HT0 := Lib.hid (hT.below hbA)
 have HG0 := Lib.hid (gb_below (r := some rb) hbA)
 have hx0 := (has6_new (W.alloc (.cells #[.int .i64 0, .int .i64 0, .int .i64 0, .int .i64 0, .int .i64 0, .int .i64 0] 33)) 33 9 0 0 0 0 0)
 rw [hz1] at hx0
 have HX0 := Lib.hid hx0
 have HZ0 := Lib.hid ((has6_new W 33 0 0 0 0 0 0).below (b := ((W.alloc (.cells #[.int .i64 0, .int .i64 0, .int .i64 0, .int .i64 0, .int .i64 0, .int .i64 0] 33)).alloc (.cells #[.int .i64 9, .int .i64 0, .int .i64 0, .int .i64 0, .int .i64 0, .int .i64 0] 33))) ((Below.refl _ _).alloc (Nat.le_refl _) _) (by simp))
 have HSZ := Lib.hid (show W.heap.size + 1 < ((W.alloc (.cells #[.int .i64 0, .int .i64 0, .int .i64 0, .int .i64 0, .int .i64 0, .int .i64 0] 33)).alloc (.cells #[.int .i64 9, .int .i64 0, .int .i64 0, .int .i64 0, .int .i64 0, .int .i64 0] 33)).heap.size from by simp)
 have HS := Lib.hid hs
 obtain ⟨v1, hv1⟩ : ∃ v, wordN (ws.headD []) = v := ⟨_, rfl⟩
 have HE := Lib.hid (show enF 9 ws = ⟨9, 0, 0, 0, 0, v1⟩ from by unfold enF; rw [if_neg (by decide), if_neg (by decide), if_pos (by decide)]; simp only [hv1]; try rfl)
 have HV1 := Lib.hid hv1
 clear h hT hs hbA hb0 hx0 hz1 hc hv1
 rw [HE.out]
 unfold entA
 simp only
 go_enter Tryz.func38, Tryz.ntmps38
 have HC1 := Lib.hid (num_read rb base (ws) (bad) _ HR0.out HT0.out hrb (heads HS.out 0))
 rw [HV1.out] at HC1
 go_wp2_with fail
 refine HC1.out.mono ?_
 rintro e w1 ⟨rfl, hr1, hg1⟩
 have HR1 := Lib.hid hr1
 have HT1 := Lib.hid (HT0.out.grown hg1 hrb)
 have HG1 := Lib.hid (gb_trans HG0.out hg1)
 have HZ1 := Lib.hid (HZ0.out.kept hg1 (Nat.lt_of_succ_lt HSZ.out) HNE.out)
 have HX1 := Lib.hid (HX0.out.kept hg1 HSZ.out HNE1.out)
 have HSZ1 := Lib.hid (Nat.lt_of_lt_of_le HSZ.out hg1.size)
 clear hr1 hg1 HC1
 obtain ⟨⟨x0, y0⟩, ⟨x1, y1⟩, ⟨x2, y2⟩, ⟨x3, y3⟩, ⟨x4, y4⟩, ⟨x5, y5⟩⟩ := HX1.out
 have hzz : Has6 (w1.setCell ⟨W.heap.size + 1, 5, none⟩ (.int .i64 v1)) W.heap.size 0 0 0 0 0 0 := (HZ1.out).set (by omega)
 obtain ⟨⟨r0, z0⟩, ⟨r1, z1⟩, ⟨r2, z2⟩, ⟨r3, z3⟩, ⟨r4, z4⟩, ⟨r5, z5⟩⟩ := hzz
 obtain ⟨q0, q1, q2', q3, q4, q5⟩ := set6 r0 r1 r2 r3 r4 r5 (.int .i64 9) (.int .i64 0) (.int .i64 0) (.int .i64 0) (.int .i64 0) (.int .i64 v1)
 go_wp2
 refine bodyPost_ret (by simp [results, Tryz.results38, go_sem, q0, q1, q2', q3, q4, q5] <;> rfl) rfl ?_
 refine ⟨rfl, ?_, put6_gb (gb_new (HG1.out) (Nat.le_succ _)) (Nat.le_refl _) (.int .i64 9) (.int .i64 0) (.int .i64 0) (.int .i64 0) (.int .i64 0) (.int .i64 v1)⟩
 have HBE := Lib.hid (show (bad || enB 9 ws) = (bad || (numT (ws.headD [])).isNone) from by unfold enB; rw [if_neg (by decide), if_neg (by decide)])
 rw [HBE.out, show enRest 9 ws = ws.tail from rfl]
 exact HR1.out.below' ((show Below base w1 (w1.setCell ⟨W.heap.size + 1, 5, none⟩ (.int .i64 v1)) from (Below.refl _ _).setCell (p := ⟨W.heap.size + 1, 5, none⟩) (Nat.le_trans HB.out.2 (Nat.le_succ _)) _).trans (put6_below (Nat.le_trans HB.out.2 (Nat.le_refl _)) (.int .i64 9) (.int .i64 0) (.int .i64 0) (.int .i64 0) (.int .i64 0) (.int .i64 v1)))
end Go.Proofs.YtjpjlfjaapfnkaaGreatDoor
namespace Go.Proofs.YtjpjlfjaapfnkaaGreatDoor
open Go.ChangeShapes Go.WideShapes Go.ChangeAt Go.RowKit Go.Maps
def enFn (c : Nat) : Value := .func (.func 38) #[] #[.pointer (some ⟨c, 0, none⟩)]
def enElem : Value → Option (DataW Unit × List MemPlace)
 | .func (.func f) ⟨[]⟩ ⟨[.pointer (some ⟨c, 0, none⟩)]⟩ => if f = 38 then some (.lit (.int .i64 (c : Int)), []) else none
 | .nilFunc => some (.lit (.int .i64 (-1)), [])
 | _ => none
theorem enElem_inv {v : Value} {c : Nat} {ps : List MemPlace} (h : enElem v = some (.lit (.int .i64 (c : Int)), ps)) : v = enFn c := by
 unfold enElem at h
 split at h
 ·rename_i f c'
  split at h
  ·rename_i hf
   have h1 := congrArg Prod.fst (Option.some.inj h)
   injection h1 with h1
   injection h1 with _ h1
   have : c' = c := Int.ofNat_inj.1 h1
   rw [this, hf]; rfl
  ·cases h
 ·have h1 := congrArg Prod.fst (Option.some.inj h)
  injection h1 with h1
  injection h1 with _ h1
  omega
 ·cases h
def enMapD (B : Nat → Nat) : Nat → DataW Unit
 | 0 => .map []
 | k + 1 => (enMapD B k).put (.string (entName k)) (.lit (.int .i64 (B k : Nat)))
theorem enMap_ext {B C : Nat → Nat} : ∀ k, (∀ i, i < k → B i = C i) → enMapD B k = enMapD C k := by
 intro k
 induction k with
 | zero => intro _; rfl
 | succ k ih =>
  intro h
  unfold enMapD
  rw [ih (fun i hi => h i (by omega)), h k (by omega)]
theorem enMap_is (B : Nat → Nat) (k : Nat) : IsMap (enMapD B k) := by
 induction k with
 | zero => exact ⟨[], rfl⟩
 | succ k ih => exact C20.isMap_put ih _ _
theorem enKey' (k : Nat) : keyOf Tryz.prog 9 (.string (bsA (entName k))) = some (.string (entName k)) := keyOf_str (s := bsA (entName k)) (by rw [bs_size]; unfold entName maxLen; split <;> simp)
theorem enKey (k : Nat) : WideAt.IsKeyLit (.string (entName k)) := strK.key (enKey' k)
theorem enMap_at (B : Nat → Nat) (w : List UInt8) : ∀ k, k ≤ 10 → Maps.has (enMapD B k) (.string w) = decide (entNo w < k) ∧ (entNo w < k → (enMapD B k).atKey (.string w) (.lit (.int .i64 (-1))) = .lit (.int .i64 (B (entNo w) : Nat))) := by
 intro k
 induction k with
 | zero => intro _; exact ⟨by simp [enMapD, Maps.has], fun a => by omega⟩
 | succ k ih =>
  intro hk
  obtain ⟨a, b⟩ := ih (by omega)
  unfold enMapD
  by_cases hw : w = entName k
  ·have hn : entNo w = k := by rw [hw]; exact entNo_name _ (by omega)
   refine ⟨?_, fun _ => ?_⟩
   ·rw [hw, has_put_same (enMap_is B k) (enKey _)]; rw [← hw, hn]; simp
   ·rw [hn, hw]; exact atKey_put_same (enMap_is B k) (enKey _) _ _
  ·have hne : (Lit.string w) ≠ .string (entName k) := fun e => hw (by simpa using e)
   have hno : entNo w ≠ k := fun e => hw (by have := (entNo_is (w := w) (by omega)).1; rw [e] at this; exact this.symm)
   rw [has_put_other hne, atKey_put_other hne, a]
   refine ⟨?_, fun c => b (by omega)⟩
   congr 1
   apply propext
   omega
theorem en_look {mb : Nat} {W : World} {B : Nat → Nat} (h : W.ownsMap Tryz.prog 9 enElem mb 10 (enMapD B 10)) {w : List UInt8} (hw : w.length ≤ 140737488355328) :
 (entNo w ≠ 10 → (Instr.lookup 78 (.map (some mb)) (.string (bsA w)) true).run Tryz.prog W = .ok (.tuple #[enFn (B (entNo w)), .bool true]) W) ∧
 (entNo w = 10 → ∃ v, (Instr.lookup 78 (.map (some mb)) (.string (bsA w)) true).run Tryz.prog W = .ok (.tuple #[v, .bool false]) W) := by
 have hz : (zeroValue 83).run Tryz.prog W = .ok .nilFunc W := by kernel_rfl
 obtain ⟨v, ps, hrun, hv⟩ := h.look_ok strK Tryz.underlying78 hz (zd := .lit (.int .i64 (-1))) (zp := []) rfl (keyOf_str (s := bsA w) (by rw [bs_size]; unfold maxLen; omega))
 have hl : (bsA w).data.toList = w := rfl
 rw [hl] at hrun hv
 obtain ⟨a, b⟩ := enMap_at B w 10 (by omega)
 rw [a] at hrun
 constructor
 ·intro h1
  have h8 : entNo w < 10 := by have := (entNo_is h1).2; omega
  rw [b h8] at hv
  rw [enElem_inv hv] at hrun
  rw [hrun]; simp [h8]
 ·intro h0
  refine ⟨v, ?_⟩
  rw [hrun]; simp [h0]
theorem enR_eq (k : Nat) (h9 : k ≤ 9) (r : List (List UInt8)) : entR k r = if enB k r = false ∧ enRest k r = [] ∧ (enF k r).may = true then some (enF k r) else none := by
 have hk : k = 0 ∨ k = 1 ∨ k = 2 ∨ k = 3 ∨ k = 4 ∨ k = 5 ∨ k = 6 ∨ k = 7 ∨ k = 8 ∨ k = 9 := by omega
 match r with
 | [] => rcases hk with rfl | rfl | rfl | rfl | rfl | rfl | rfl | rfl | rfl | rfl <;> simp [entR, enB, enF, enRest, entChk, num_nil]
 | [a] =>
  cases ha : numT a with
  | none => rcases hk with rfl | rfl | rfl | rfl | rfl | rfl | rfl | rfl | rfl | rfl <;> simp [entR, enB, enRest, num_nil, ha]
  | some x => rcases hk with rfl | rfl | rfl | rfl | rfl | rfl | rfl | rfl | rfl | rfl <;> simp [entR, enB, enF, enRest, wordN, entChk, num_nil, ha, parse_nil]
 | [a, b] => rcases hk with rfl | rfl | rfl | rfl | rfl | rfl | rfl | rfl | rfl | rfl <;> simp [entR, enB, enRest, mode_nil]
 | [a, b, c] =>
  cases ha : numT a with
  | none => rcases hk with rfl | rfl | rfl | rfl | rfl | rfl | rfl | rfl | rfl | rfl <;> simp [entR, enB, enRest, num_nil, ha]
  | some x =>
   cases hp : parseL b with
   | inr i => rcases hk with rfl | rfl | rfl | rfl | rfl | rfl | rfl | rfl | rfl | rfl <;> simp [entR, enB, enF, enRest, wordN, entChk, num_nil, ha, hp, resBad]
   | inl p =>
    obtain ⟨t, q⟩ := p
    rcases hk with rfl | rfl | rfl | rfl | rfl | rfl | rfl | rfl | rfl | rfl <;> (simp [entR, enB, enF, enRest, wordN, entChk, num_nil, ha, hp, resBad, resR] <;> (by_cases hm : modeT c = 0 <;> simp [hm]))
 | a :: b :: c :: d :: t => rcases hk with rfl | rfl | rfl | rfl | rfl | rfl | rfl | rfl | rfl | rfl <;> simp [entR, enB, enRest]
theorem enP_sp {L : List UInt8} {w0 : List UInt8} {r : List (List UInt8)} (h : spL 32 L = w0 :: r) : entP L = if entNo w0 = 10 then none else if enB (entNo w0) r = false ∧ enRest (entNo w0) r = [] ∧ (enF (entNo w0) r).may = true then some (enF (entNo w0) r) else none := by
 unfold entP
 rw [h]
 simp only
 by_cases h0 : entNo w0 = 10
 ·rw [if_pos h0, if_pos h0]
 ·have := entNo_is h0
  rw [if_neg h0, if_neg h0, enR_eq _ this.2]
theorem en_call (k : Nat) (h9 : k ≤ 9) (rb c base : Nat) (ws : List (List UInt8)) (bad : Bool) (W : World) (h : Rdr W rb base ws bad) (hT : TxW W) (hrb : 9 ≤ rb) (hs : ∀ w ∈ ws, w.length ≤ 140737488355328) (hc : W.cell? ⟨c, 0, none⟩ = some (.int .i64 k)) :
 Calls Tryz.prog 38 #[.pointer (some ⟨rb, 0, none⟩), .pointer (some ⟨c, 0, none⟩)] W fun e w' => e = .returned (.agg (entA (enF k ws))) ∧ Rdr w' rb base (enRest k ws) (bad || enB k ws) ∧ W.grownBy w' (some rb) := by
 have hk : k = 0 ∨ k = 1 ∨ k = 2 ∨ k = 3 ∨ k = 4 ∨ k = 5 ∨ k = 6 ∨ k = 7 ∨ k = 8 ∨ k = 9 := by omega
 rcases hk with rfl | rfl | rfl | rfl | rfl | rfl | rfl | rfl | rfl | rfl
 ·exact en0_read rb c base ws bad W h hT hrb hs hc
 ·exact en1_read rb c base ws bad W h hT hrb hs hc
 ·exact en2_read rb c base ws bad W h hT hrb hs hc
 ·exact en3_read rb c base ws bad W h hT hrb hs hc
 ·exact en4_read rb c base ws bad W h hT hrb hs hc
 ·exact en5_read rb c base ws bad W h hT hrb hs hc
 ·exact en6_read rb c base ws bad W h hT hrb hs hc
 ·exact en7_read rb c base ws bad W h hT hrb hs hc
 ·exact en8_read rb c base ws bad W h hT hrb hs hc
 ·exact en9_read rb c base ws bad W h hT hrb hs hc
end Go.Proofs.YtjpjlfjaapfnkaaGreatDoor
namespace Go.Proofs.YtjpjlfjaapfnkaaGreatDoor
open Go.ChangeShapes Go.WideShapes Go.ChangeAt Go.RowKit
def EnIs (e : Ending) : Option Ent → Prop
 | some x => e = .returned (.tuple #[.agg (entA x), .nilIface])
 | none => e = .returned (.tuple #[.agg #[.int .i64 0, .int .i64 0, .int .i64 0, .int .i64 0, .int .i64 0, .int .i64 0], .iface 70 (.int .i64 5)])
def Zero6 (w : World) (B : Nat) : Prop := Has6 w B 0 0 0 0 0 0
theorem Zero6.kept {a b : World} {B r : Nat} (h : Zero6 a B) (hg : a.grownBy b (some r)) (hB : B < a.heap.size) (hne : B ≠ r) : Zero6 b B := Has6.kept h hg hB hne
theorem Zero6.below {a b : World} {B : Nat} (h : Zero6 a B) (hb : Below a.heap.size a b) (hB : B < a.heap.size) : Zero6 b B := Has6.below h hb hB
def rdenW (W : World) (ws : List (List UInt8)) : World :=
 (((W.alloc (.cells #[.int .i64 0, .int .i64 0, .int .i64 0, .int .i64 0, .int .i64 0, .int .i64 0] 33)).alloc (.cells #[.int .i64 0, .int .i64 0, .int .i64 0, .int .i64 0, .int .i64 0, .int .i64 0] 33)).alloc (.cells (strs ws) 9)).alloc (.cells #[.slice (some ⟨W.heap.size + 1 + 1, 0, none⟩) ws.length ws.length, .bool false] 115)
theorem rden_below (W : World) (ws : List (List UInt8)) : Below W.heap.size W (rdenW W ws) := by unfold rdenW; go_grown
theorem rden_size (W : World) (ws : List (List UInt8)) : (rdenW W ws).heap.size = W.heap.size + 1 + 1 + 1 + 1 := by unfold rdenW; simp
theorem rden_z0 (W : World) (ws : List (List UInt8)) : Zero6 (rdenW W ws) W.heap.size := by
 have hb : Below (W.alloc (.cells #[.int .i64 0, .int .i64 0, .int .i64 0, .int .i64 0, .int .i64 0, .int .i64 0] 33)).heap.size (W.alloc (.cells #[.int .i64 0, .int .i64 0, .int .i64 0, .int .i64 0, .int .i64 0, .int .i64 0] 33)) (rdenW W ws) := by
  unfold rdenW
  exact (((Below.refl _ _).alloc (by simp) _).alloc (by simp) _).alloc (by simp) _
 exact (has6_new W 33 0 0 0 0 0 0).below hb (by simp)
theorem rden_z1 (W : World) (ws : List (List UInt8)) : Zero6 (rdenW W ws) (W.heap.size + 1) := by
 have hb : Below ((W.alloc (.cells #[.int .i64 0, .int .i64 0, .int .i64 0, .int .i64 0, .int .i64 0, .int .i64 0] 33)).alloc (.cells #[.int .i64 0, .int .i64 0, .int .i64 0, .int .i64 0, .int .i64 0, .int .i64 0] 33)).heap.size ((W.alloc (.cells #[.int .i64 0, .int .i64 0, .int .i64 0, .int .i64 0, .int .i64 0, .int .i64 0] 33)).alloc (.cells #[.int .i64 0, .int .i64 0, .int .i64 0, .int .i64 0, .int .i64 0, .int .i64 0] 33)) (rdenW W ws) := by
  unfold rdenW
  exact ((Below.refl _ _).alloc (by simp) _).alloc (by simp) _
 have h := has6_new (W.alloc (.cells #[.int .i64 0, .int .i64 0, .int .i64 0, .int .i64 0, .int .i64 0, .int .i64 0] 33)) 33 0 0 0 0 0 0
 rw [show (W.alloc (.cells #[.int .i64 0, .int .i64 0, .int .i64 0, .int .i64 0, .int .i64 0, .int .i64 0] 33)).heap.size = W.heap.size + 1 from by simp] at h
 exact h.below hb (by simp)
theorem rden_rdr (W : World) (ws : List (List UInt8)) : Rdr (rdenW W ws) (W.heap.size + 1 + 1 + 1) (W.heap.size + 1 + 1 + 1 + 1) ws false := by
 obtain ⟨X, hX⟩ : ∃ X, (W.alloc (.cells #[.int .i64 0, .int .i64 0, .int .i64 0, .int .i64 0, .int .i64 0, .int .i64 0] 33)).alloc (.cells #[.int .i64 0, .int .i64 0, .int .i64 0, .int .i64 0, .int .i64 0, .int .i64 0] 33) = X := ⟨_, rfl⟩
 have hs : X.heap.size = W.heap.size + 1 + 1 := by rw [← hX]; simp
 unfold rdenW
 rw [hX, ← hs]
 obtain ⟨g, off, hA, hc⟩ := rds_block (W := X.alloc (.cells (strs ws) 9)) (g := X.heap.size) (T := 9) (fr := (0, 0)) (ws := ws) (by rw [heap_push, if_pos rfl])
 have hz : (X.alloc (.cells (strs ws) 9)).heap.size = X.heap.size + 1 := by simp
 refine ⟨_, ws.length, X.heap.size, 0, ?_, ?_, ?_, ?_, Nat.le_refl _, by omega, ⟨by omega, by omega, by simp⟩, fun _ => rfl, fun i hi => ?_⟩
 ·rw [← hz]; simp
 ·rw [← hz]; simp
 ·rw [← hz]; simp
 ·rw [← hz]; simp
 ·obtain ⟨ha, hg⟩ := hA (by omega)
  simp only [Option.some.injEq, Addr.mk.injEq, and_true] at ha
  obtain ⟨rfl, rfl⟩ := ha
  have := hc i hi
  rw [World.cell?_alloc_lt _ _ _ (by simp)]
  exact this
set_option maxRecDepth 100000 in
set_option maxHeartbeats 4000000 in
theorem read_en (s : ByteArray) (mb : Nat) (W : World) (hT : TxW W) (B : Nat → Nat) (hBl : ∀ i, i < 10 → B i < W.heap.size) (hBc : ∀ i, i < 10 → W.cell? ⟨B i, 0, none⟩ = some (.int .i64 i)) (hown : W.ownsMap Tryz.prog 9 enElem mb 10 (enMapD B 10)) (hs : s.size < 4294967281) (hG : 9 ≤ W.heap.size) :
 Calls Tryz.prog 42 #[.string s, .map (some mb), .func (.func 27) #[] #[]] W fun e w' => EnIs e (entP s.data.toList) ∧ Below W.heap.size W w' := by
 have hmb := hown.lt
 have hb0 : Below W.heap.size W (W.alloc (.cells #[.int .i64 0, .int .i64 0, .int .i64 0, .int .i64 0, .int .i64 0, .int .i64 0] 33)) := (Below.refl _ _).alloc (Nat.le_refl _) _
 have hb1 := hb0.alloc hb0.size (.cells #[.int .i64 0, .int .i64 0, .int .i64 0, .int .i64 0, .int .i64 0, .int .i64 0] 33)
 have HSP := Lib.hid (split_any s 32 _ (hT.below hb1) hs)
 obtain ⟨w0, r, hws⟩ : ∃ w0 r, spL 32 s.data.toList = w0 :: r := by
  cases h : spL 32 s.data.toList with
  | nil => exact absurd h (sp_ne _ _)
  | cons a b => exact ⟨a, b, rfl⟩
 have hwl : ∀ w ∈ spL 32 s.data.toList, w.length ≤ 140737488355328 := fun w hw => by
  have := sp_word 32 s.data.toList w hw
  have hsz : s.data.toList.length = s.size := rfl
  omega
 have hp := enP_sp hws
 rw [hws] at HSP hwl
 have HP := Lib.hid hp
 have HWL := Lib.hid hwl
 have HNX := Lib.hid (next_any _ _ (w0 :: r) false _ (rden_rdr W (w0 :: r)))
 have HB3 := Lib.hid (rden_below W (w0 :: r))
 have HZ0 := Lib.hid (rden_z0 W (w0 :: r))
 have HZ1 := Lib.hid (rden_z1 W (w0 :: r))
 have HS3 := Lib.hid (rden_size W (w0 :: r))
 have HT3 := Lib.hid (hT.below HB3.out)
 have HOW := Lib.hid (hown.kept (gb_below (r := none) HB3.out) (by simp))
 have HMB := Lib.hid hmb
 unfold rdenW at HNX
 have HBL := Lib.hid hBl
 have HBC := Lib.hid hBc
 clear hws hwl hp hT hown hb0 hb1 hmb hBl hBc
 simp only [List.headD_cons, List.tail_cons, List.isEmpty_cons, Bool.or_false] at HNX
 go_enter Tryz.func42, Tryz.ntmps42
 go_wp2_with fail
 refine HSP.out.mono ?_
 rintro e w' ⟨rfl, rfl⟩
 go_wp2_with fail
 refine HNX.out.mono ?_
 rintro e w4 ⟨rfl, hr4, hg4⟩
 have hg4' : (rdenW W (w0 :: r)).grownBy w4 (some (W.heap.size + 1 + 1 + 1)) := hg4
 have HR4 := Lib.hid hr4
 have HT4 := Lib.hid (HT3.out.grown hg4' (by omega))
 have HZ40 := Lib.hid (HZ0.out.kept hg4' (by rw [HS3.out]; omega) (by omega))
 have HZ41 := Lib.hid (HZ1.out.kept hg4' (by rw [HS3.out]; omega) (by omega))
 have hm4 := HOW.out.kept hg4' (by simp; have := HMB.out; omega)
 have HB4 := Lib.hid (HB3.out.grown hg4' HB3.out.size (fun k hk => by cases hk; omega))
 have HS4 := Lib.hid (show W.heap.size + 1 + 1 + 1 + 1 ≤ w4.heap.size from by rw [← HS3.out]; exact hg4'.size)
 obtain ⟨l1, l0⟩ := en_look hm4 (HWL.out w0 List.mem_cons_self)
 have HL1 := Lib.hid l1
 have HL0 := Lib.hid l0
 have HC4 := Lib.hid (show ∀ i, i < 10 → w4.cell? ⟨B i, 0, none⟩ = some (.int .i64 i) from fun i hi =>
  ((gb_cell (o := 0) hg4' (by rw [HS3.out]; have := HBL.out i hi; omega) (by have := HBL.out i hi; omega)).1).trans (cell_keep HB3.out (HBC.out i hi)))
 clear hr4 hg4 hg4' hm4 l1 l0 HNX HSP HZ0 HZ1 HT3 HOW
 by_cases h0 : entNo w0 = 10
 ·obtain ⟨v, hrun⟩ := HL0.out h0
  have HPN := Lib.hid (HP.out.trans (if_pos h0))
  clear h0 HL1 HL0
  obtain ⟨⟨r0, z0⟩, ⟨r1, z1⟩, ⟨r2, z2⟩, ⟨r3, z3⟩, ⟨r4, z4⟩, ⟨r5, z5⟩⟩ := id HZ40.out
  obtain ⟨⟨s0, _⟩, ⟨s1, _⟩, ⟨s2, _⟩, ⟨s3, _⟩, ⟨s4, _⟩, ⟨s5, _⟩⟩ := id HZ41.out
  obtain ⟨q0, q1, q2, q3, q4, q5⟩ := set6 r0 r1 r2 r3 r4 r5 (.int .i64 0) (.int .i64 0) (.int .i64 0) (.int .i64 0) (.int .i64 0) (.int .i64 0)
  go_wp2
  refine bodyPost_ret (by simp [results, Tryz.results42, go_sem, q0, q1, q2, q3, q4, q5] <;> rfl) rfl ?_
  rw [HPN.out]
  exact ⟨rfl, (HB4.out).trans ((put6_below (w := w4) (Nat.le_refl W.heap.size) (.int .i64 0) (.int .i64 0) (.int .i64 0) (.int .i64 0) (.int .i64 0) (.int .i64 0)))⟩
 ·have hk := entNo_is h0
  have hrun := HL1.out h0
  have HPN := Lib.hid (HP.out.trans (if_neg h0))
  have HCL := Lib.hid (en_call (entNo w0) hk.2 _ (B (entNo w0)) _ r false w4 HR4.out HT4.out (by omega) (fun w hw => HWL.out w (List.mem_cons_of_mem _ hw)) (HC4.out _ (by have := hk.2; omega)))
  unfold enFn at hrun
  obtain ⟨c, hc⟩ : ∃ c, B (entNo w0) = c := ⟨_, rfl⟩
  rw [hc] at hrun HCL
  clear hc
  obtain ⟨E, hE⟩ : ∃ E, enF (entNo w0) r = E := ⟨_, rfl⟩
  obtain ⟨b5, hb5⟩ : ∃ b, enB (entNo w0) r = b := ⟨_, rfl⟩
  obtain ⟨rest, hre⟩ : ∃ b, enRest (entNo w0) r = b := ⟨_, rfl⟩
  rw [hE, hb5, hre] at HPN
  rw [hE, hb5, hre] at HCL
  rw [Bool.false_or] at HCL
  clear hk h0 HL1 HL0 HP HC4 hE hb5 hre
  obtain ⟨ek, ec, et, er, em, ep⟩ := E
  unfold entA at HCL
  simp only at HCL
  go_wp2_with fail
  refine HCL.out.mono ?_
  rintro e w5 ⟨rfl, hr5, hg5⟩
  have hb5 : Below w5.heap.size w5 (w5.alloc (.cells #[.int .i64 ek, .int .i64 ec, .int .i64 et, .int .i64 er, .int .i64 em, .int .i64 ep] 33)) := (Below.refl _ _).alloc (Nat.le_refl _) _
  have HS5 := Lib.hid (show W.heap.size + 1 + 1 + 1 + 1 ≤ w5.heap.size from Nat.le_trans HS4.out hg5.size)
  have HZ50 := Lib.hid ((HZ40.out.kept hg5 (by have := HS4.out; omega) (by omega)).below hb5 (by have := HS5.out; omega))
  have HZ51 := Lib.hid ((HZ41.out.kept hg5 (by have := HS4.out; omega) (by omega)).below hb5 (by have := HS5.out; omega))
  have HB5 := Lib.hid ((HB4.out.grown hg5 HB4.out.size (fun k hk => by cases hk; omega)).trans (hb5.mono (by have := HS5.out; omega)))
  have HR5 := Lib.hid (hr5.below hb5)
  obtain ⟨A5, c5, _, _, c0, c1, _⟩ := id HR5.out
  clear hr5 hg5 hrun HCL HZ40 HZ41 HB4 HR4 HT4
  cases b5 with
  | true =>
   have HPF := Lib.hid (HPN.out.trans (if_neg (by simp)))
   obtain ⟨⟨r0, z0⟩, ⟨r1, z1⟩, ⟨r2, z2⟩, ⟨r3, z3⟩, ⟨r4, z4⟩, ⟨r5, z5⟩⟩ := id HZ50.out
   obtain ⟨⟨s0, _⟩, ⟨s1, _⟩, ⟨s2, _⟩, ⟨s3, _⟩, ⟨s4, _⟩, ⟨s5, _⟩⟩ := id HZ51.out
   obtain ⟨q0, q1, q2, q3, q4, q5⟩ := set6 r0 r1 r2 r3 r4 r5 (.int .i64 0) (.int .i64 0) (.int .i64 0) (.int .i64 0) (.int .i64 0) (.int .i64 0)
   go_wp2
   refine bodyPost_ret (by simp [results, Tryz.results42, go_sem, q0, q1, q2, q3, q4, q5] <;> rfl) rfl ?_
   rw [HPF.out]
   exact ⟨rfl, (HB5.out).trans ((put6_below (w := _) (Nat.le_refl W.heap.size) (.int .i64 0) (.int .i64 0) (.int .i64 0) (.int .i64 0) (.int .i64 0) (.int .i64 0)))⟩
  | false =>
   by_cases hn : rest = []
   ·subst hn
    have c0 : (w5.alloc (.cells #[.int .i64 ek, .int .i64 ec, .int .i64 et, .int .i64 er, .int .i64 em, .int .i64 ep] 33)).cell? ⟨W.heap.size + 1 + 1 + 1, 0, none⟩ = some (.slice A5 0 c5) := c0
    have HF := Lib.hid (entok_any ek ec et er em ep (w5.alloc (.cells #[.int .i64 ek, .int .i64 ec, .int .i64 et, .int .i64 er, .int .i64 em, .int .i64 ep] 33)))
    have hbm : (⟨ek, ec, et, er, em, ep⟩ : Ent).may = entB ek ec et er em ep := rfl
    rw [hbm] at HPN
    clear hbm
    cases hf : entB ek ec et er em ep with
    | false =>
     rw [hf] at HF
     have HPF := Lib.hid (HPN.out.trans (if_neg (fun q => by rw [hf] at q; cases q.2.2)))
     clear hf
     go_wp2_with fail
     refine HF.out.mono ?_
     rintro e w6 ⟨rfl, hb6⟩
     have HZ60 := Lib.hid (HZ50.out.below hb6 (by have := HS5.out; simp; omega))
     have HZ61 := Lib.hid (HZ51.out.below hb6 (by have := HS5.out; simp; omega))
     have HB6 := Lib.hid (HB5.out.trans (hb6.mono HB5.out.size))
     clear hb6
     obtain ⟨⟨r0, z0⟩, ⟨r1, z1⟩, ⟨r2, z2⟩, ⟨r3, z3⟩, ⟨r4, z4⟩, ⟨r5, z5⟩⟩ := id HZ60.out
     obtain ⟨⟨s0, _⟩, ⟨s1, _⟩, ⟨s2, _⟩, ⟨s3, _⟩, ⟨s4, _⟩, ⟨s5, _⟩⟩ := id HZ61.out
     obtain ⟨q0, q1, q2, q3, q4, q5⟩ := set6 r0 r1 r2 r3 r4 r5 (.int .i64 0) (.int .i64 0) (.int .i64 0) (.int .i64 0) (.int .i64 0) (.int .i64 0)
     go_wp2
     refine bodyPost_ret (by simp [results, Tryz.results42, go_sem, q0, q1, q2, q3, q4, q5] <;> rfl) rfl ?_
     rw [HPF.out]
     exact ⟨rfl, (HB6.out).trans ((put6_below (w := w6) (Nat.le_refl W.heap.size) (.int .i64 0) (.int .i64 0) (.int .i64 0) (.int .i64 0) (.int .i64 0) (.int .i64 0)))⟩
    | true =>
     rw [hf] at HF
     have HPT := Lib.hid (HPN.out.trans (if_pos ⟨rfl, rfl, hf⟩))
     have x0 : (w5.alloc (.cells #[.int .i64 ek, .int .i64 ec, .int .i64 et, .int .i64 er, .int .i64 em, .int .i64 ep] 33)).cell? ⟨w5.heap.size, 0, none⟩ = some (.int .i64 ek) := by simp
     have x1 : (w5.alloc (.cells #[.int .i64 ek, .int .i64 ec, .int .i64 et, .int .i64 er, .int .i64 em, .int .i64 ep] 33)).cell? ⟨w5.heap.size, 1, none⟩ = some (.int .i64 ec) := by simp
     have x2 : (w5.alloc (.cells #[.int .i64 ek, .int .i64 ec, .int .i64 et, .int .i64 er, .int .i64 em, .int .i64 ep] 33)).cell? ⟨w5.heap.size, 2, none⟩ = some (.int .i64 et) := by simp
     have x3 : (w5.alloc (.cells #[.int .i64 ek, .int .i64 ec, .int .i64 et, .int .i64 er, .int .i64 em, .int .i64 ep] 33)).cell? ⟨w5.heap.size, 3, none⟩ = some (.int .i64 er) := by simp
     have x4 : (w5.alloc (.cells #[.int .i64 ek, .int .i64 ec, .int .i64 et, .int .i64 er, .int .i64 em, .int .i64 ep] 33)).cell? ⟨w5.heap.size, 4, none⟩ = some (.int .i64 em) := by simp
     have x5 : (w5.alloc (.cells #[.int .i64 ek, .int .i64 ec, .int .i64 et, .int .i64 er, .int .i64 em, .int .i64 ep] 33)).cell? ⟨w5.heap.size, 5, none⟩ = some (.int .i64 ep) := by simp
     have HX := Lib.hid (And.intro x0 (And.intro x1 (And.intro x2 (And.intro x3 (And.intro x4 x5)))))
     clear hf x0 x1 x2 x3 x4 x5
     go_wp2_with fail
     refine HF.out.mono ?_
     rintro e w6 ⟨rfl, hb6⟩
     have HZ60 := Lib.hid (HZ50.out.below hb6 (by have := HS5.out; simp; omega))
     have HB6 := Lib.hid (HB5.out.trans (hb6.mono HB5.out.size))
     obtain ⟨x0, x1, x2, x3, x4, x5⟩ := HX.out
     have x0 := cell_keep hb6 x0
     have x1 := cell_keep hb6 x1
     have x2 := cell_keep hb6 x2
     have x3 := cell_keep hb6 x3
     have x4 := cell_keep hb6 x4
     have x5 := cell_keep hb6 x5
     obtain ⟨⟨r0, z0⟩, ⟨r1, z1⟩, ⟨r2, z2⟩, ⟨r3, z3⟩, ⟨r4, z4⟩, ⟨r5, z5⟩⟩ := id HZ60.out
     obtain ⟨q0, q1, q2, q3, q4, q5⟩ := set6 r0 r1 r2 r3 r4 r5 (.int .i64 ek) (.int .i64 ec) (.int .i64 et) (.int .i64 er) (.int .i64 em) (.int .i64 ep)
     clear hb6
     go_wp2
     refine bodyPost_ret (by simp [results, Tryz.results42, go_sem, q0, q1, q2, q3, q4, q5] <;> rfl) rfl ?_
     rw [HPT.out]
     exact ⟨rfl, HB6.out.trans ((put6_below (w := w6) (Nat.le_refl W.heap.size) (.int .i64 ek) (.int .i64 ec) (.int .i64 et) (.int .i64 er) (.int .i64 em) (.int .i64 ep)))⟩
   ·have HPF := Lib.hid (HPN.out.trans (if_neg (fun q => hn q.2.1)))
    obtain ⟨m, hm⟩ : ∃ m, rest.length = m + 1 := ⟨rest.length - 1, by
     have : 0 < rest.length := List.length_pos_iff.2 hn
     omega⟩
    rw [hm] at c0
    have hm0 : (0 : Int) < ((m + 1 : Nat) : Int) := by omega
    clear hn hm
    obtain ⟨⟨r0, z0⟩, ⟨r1, z1⟩, ⟨r2, z2⟩, ⟨r3, z3⟩, ⟨r4, z4⟩, ⟨r5, z5⟩⟩ := id HZ50.out
    obtain ⟨⟨s0, _⟩, ⟨s1, _⟩, ⟨s2, _⟩, ⟨s3, _⟩, ⟨s4, _⟩, ⟨s5, _⟩⟩ := id HZ51.out
    obtain ⟨q0, q1, q2, q3, q4, q5⟩ := set6 r0 r1 r2 r3 r4 r5 (.int .i64 0) (.int .i64 0) (.int .i64 0) (.int .i64 0) (.int .i64 0) (.int .i64 0)
    go_wp2
    refine bodyPost_ret (by simp [results, Tryz.results42, go_sem, q0, q1, q2, q3, q4, q5] <;> rfl) rfl ?_
    rw [HPF.out]
    exact ⟨rfl, (HB5.out).trans ((put6_below (w := _) (Nat.le_refl W.heap.size) (.int .i64 0) (.int .i64 0) (.int .i64 0) (.int .i64 0) (.int .i64 0) (.int .i64 0)))⟩
end Go.Proofs.YtjpjlfjaapfnkaaGreatDoor
namespace Go.Proofs.YtjpjlfjaapfnkaaGreatDoor
open Go.ChangeShapes Go.WideShapes Go.ChangeAt Go.RowKit Go.Maps
def PeI (W wr : World) (g k : Nat) (B : Nat → Nat) : Prop :=
 (∀ i, i < k → W.heap.size + 1 < B i ∧ B i < wr.heap.size ∧ wr.cell? ⟨B i, 0, none⟩ = some (.int .i64 i)) ∧ wr.ownsMap Tryz.prog 9 enElem (W.heap.size + 1) k (enMapD B k) ∧ (∀ i, i < 10 → wr.cell? ⟨g, i, none⟩ = some (.string (bsA (entName i)))) ∧ W.heap.size + 1 < g ∧ g < wr.heap.size ∧ Below W.heap.size W wr ∧ Zero6 wr W.heap.size
theorem PeI.step {W wr w5 : World} {g k : Nat} {B : Nat → Nat} (h : PeI W wr g k B)
 (ho : w5.ownsMap Tryz.prog 9 enElem (W.heap.size + 1) (k + 1) ((enMapD B k).put (.string (entName k)) (.lit (.int .i64 (wr.heap.size : Nat)))))
 (hg : (wr.alloc (.cells #[.int .i64 k] 3)).grownBy w5 (some (W.heap.size + 1))) : PeI W w5 g (k + 1) (fun i => if i = k then wr.heap.size else B i) := by
 obtain ⟨h1, h2, h3, h4, h5, h6, h7⟩ := h
 have hb : Below wr.heap.size wr (wr.alloc (.cells #[.int .i64 k] 3)) := (Below.refl _ _).alloc (Nat.le_refl _) _
 have hz : (wr.alloc (.cells #[.int .i64 k] 3)).heap.size = wr.heap.size + 1 := by simp
 have hs := hg.size
 rw [hz] at hs
 have hW := h6.size
 refine ⟨fun i hi => ?_, ?_, fun i hi => ?_, h4, by omega, ?_, ?_⟩
 ·by_cases hk : i = k
  ·subst hk
   simp only [if_pos]
   exact ⟨by omega, by omega, ((gb_cell (o := 0) hg (by rw [hz]; omega) (by omega)).1).trans (by simp)⟩
  ·simp only [if_neg hk]
   obtain ⟨a, b, c⟩ := h1 i (by omega)
   exact ⟨a, by omega, ((gb_cell (o := 0) hg (by rw [hz]; omega) (by omega)).1).trans (cell_keep hb c)⟩
 ·have e : enMapD (fun i => if i = k then wr.heap.size else B i) (k + 1) = (enMapD B k).put (.string (entName k)) (.lit (.int .i64 (wr.heap.size : Nat))) := by
   show (enMapD (fun i => if i = k then wr.heap.size else B i) k).put (.string (entName k)) (.lit (.int .i64 ((if k = k then wr.heap.size else B k : Nat) : Int))) = _
   rw [enMap_ext k (B := fun i => if i = k then wr.heap.size else B i) (C := B) (fun i hi => if_neg (by omega)), if_pos rfl]
  rw [e]; exact ho
 ·exact ((gb_cell (o := i) hg (by rw [hz]; omega) (by omega)).1).trans (cell_keep hb (h3 i hi))
 ·exact (h6.trans (hb.mono h6.size)).grown hg (by rw [hz]; omega) (fun q hq => by cases hq; omega)
 ·exact (Has6.below h7 hb (by omega)).kept hg (by rw [hz]; omega) (by omega)
set_option maxRecDepth 100000 in
set_option maxHeartbeats 4000000 in
theorem parse_entry (s : ByteArray) (W : World) (hT : TxW W) (hs : s.size < 4294967281) (hG : 9 ≤ W.heap.size) :
 Calls Tryz.prog 13 #[.string s] W fun e w' => EnIs e (entP s.data.toList) ∧ Below W.heap.size W w' := by
 have hmk : ∀ X, (Instr.makeMap 78 none).run Tryz.prog X = .ok (.map (some X.heap.size)) (X.alloc (.map #[] 0)) := fun X => rfl
 have hmf : ∀ (fn : Fn) (first cap : Array Value) (w : World), (Instr.makeFunc fn first cap).run Tryz.prog w = .ok (.func fn first cap) w := fun _ _ _ _ => rfl
 obtain ⟨W1, hW1⟩ : ∃ X, (W.alloc (.cells #[.int .i64 0, .int .i64 0, .int .i64 0, .int .i64 0, .int .i64 0, .int .i64 0] 33)) = X := ⟨_, rfl⟩
 have hz1 : W1.heap.size = W.heap.size + 1 := by rw [← hW1]; simp
 have hb1 : Below W.heap.size W W1 := by rw [← hW1]; exact (Below.refl _ _).alloc (Nat.le_refl _) _
 have h61 : Zero6 W1 W.heap.size := by rw [← hW1]; exact has6_new W 33 0 0 0 0 0 0
 have hb2 : Below W1.heap.size W1 (W1.alloc (.map #[] 0)) := (Below.refl _ _).alloc (Nat.le_refl _) _
 have ho2 : (W1.alloc (.map #[] 0)).ownsMap Tryz.prog 9 enElem (W.heap.size + 1) 0 (enMapD (fun _ => 0) 0) := by
  have := World.ownsMap_made W1 Tryz.prog 9 enElem
  rw [hz1] at this; exact this
 have HNM := Lib.hid (names_at (W1.alloc (.map #[] 0)))
 have HO2 := Lib.hid ho2
 have HB2 := Lib.hid (hb1.trans (hb2.mono hb1.size))
 have H62 := Lib.hid (Zero6.below h61 hb2 (by omega))
 have hz2 : (W1.alloc (.map #[] 0)).heap.size = W.heap.size + 1 + 1 := by simp [hz1]
 have HTW := Lib.hid hT
 have HZ2 := Lib.hid hz2
 rw [← hW1] at HNM HO2 HB2 H62 HZ2
 clear ho2 hb1 hb2 h61 hz1 hz2 hT hW1
 go_enter Tryz.func13, Tryz.ntmps13
 go_wp2_with fail
 refine HNM.out.mono ?_
 rintro e w3 ⟨rfl, hcs, hb3⟩
 have HP0 := Lib.hid (show PeI W w3 (W.heap.size + 1 + 1) 0 (fun _ => 0) from
  ⟨fun i hi => by omega, HO2.out.kept (gb_below (r := none) hb3) (by simp), fun i hi => by have := hcs i hi; rwa [HZ2.out] at this, by omega, by have := hcs 0 (by omega); rw [HZ2.out] at this; exact lt_of_cell this, HB2.out.trans (hb3.mono HB2.out.size), Zero6.below H62.out hb3 (by rw [HZ2.out]; omega)⟩)
 clear hcs hb3 HNM HO2 HB2 H62
 go_wp2
 go_loopw [10] (fun i wr => ∃ k : Nat, k ≤ 10 ∧ i = .int .i64 k ∧ ∃ B, PeI W wr (W.heap.size + 1 + 1) k B) (fun i _ => 10 - (intOf i).toNat)
 case atStart => exact ⟨0, by omega, by first | go_num | rfl, _, HP0.out⟩
 case round =>
  obtain ⟨k, hk, rfl, B, hp⟩ := hrel
  have HP := Lib.hid hp
  clear hp
  by_cases hlt : k < 10
  ·have hlt' : (k : Int) < 10 := by omega
   have hnc := HP.out.2.2.1 k hlt
   go_wp2_with (at_mapUpdate; refine wpList_mapUpdate_own _ rfl _ _ _ 78 rfl 9 83 strK Tryz.underlying78 enElem (W.heap.size + 1) k (enMapD B k) rfl (HP.out.2.1.alloc _) (by unfold maxLen; omega) _ _ (.string (entName k)) rfl rfl (enKey' k) (.lit (.int .i64 (wr.heap.size : Nat))) [] rfl ?_; intro w5 hown5 hgrow5; have HP5 := Lib.hid (PeI.step HP.out hown5 hgrow5); clear hown5 hgrow5)
   go_roundw
   case rel => exact ⟨k + 1, by omega, by go_num, _, HP5.out⟩
   case measure => simp [intOf]; omega
  ·obtain rfl : k = 10 := by omega
   clear hk hlt
   obtain ⟨w8, rfl⟩ : ∃ X, X = wr := ⟨_, rfl⟩
   obtain ⟨h1, h2, h3, h4, h5, h6, h7⟩ := HP.out
   have HRD := Lib.hid (read_en s (W.heap.size + 1) w8 (HTW.out.below h6) B (fun i hi => (h1 i hi).2.1) (fun i hi => (h1 i hi).2.2) h2 hs (by have := h6.size; omega))
   have HB8 := Lib.hid h6
   have HZ8 := Lib.hid h7
   have HS8 := Lib.hid (show W.heap.size < w8.heap.size by omega)
   clear h1 h2 h3 h4 h5 h6 h7 HP
   go_wp2_with fail
   refine HRD.out.mono ?_
   rintro e w9 ⟨hE, hb9⟩
   have HZ9 := Lib.hid (Zero6.below HZ8.out hb9 HS8.out)
   have HB9 := Lib.hid (HB8.out.trans (hb9.mono HB8.out.size))
   obtain ⟨⟨r0, z0⟩, ⟨r1, z1⟩, ⟨r2, z2⟩, ⟨r3, z3⟩, ⟨r4, z4⟩, ⟨r5, z5⟩⟩ := id HZ9.out
   clear hb9 HRD
   cases hp : entP s.data.toList with
   | none =>
    rw [hp] at hE
    obtain rfl := hE
    have HP := Lib.hid hp
    clear hp
    obtain ⟨q0, q1, q2, q3, q4, q5⟩ := set6 r0 r1 r2 r3 r4 r5 (.int .i64 0) (.int .i64 0) (.int .i64 0) (.int .i64 0) (.int .i64 0) (.int .i64 0)
    go_wp2
    refine bodyPost_ret (by simp [results, Tryz.results13, go_sem, q0, q1, q2, q3, q4, q5] <;> rfl) rfl ?_
    rw [HP.out]
    exact ⟨rfl, HB9.out.trans ((put6_below (w := w9) (Nat.le_refl W.heap.size) (.int .i64 0) (.int .i64 0) (.int .i64 0) (.int .i64 0) (.int .i64 0) (.int .i64 0)))⟩
   | some E =>
    rw [hp] at hE
    obtain ⟨ek, ec, et, er, em, ep⟩ := E
    obtain rfl := hE
    unfold entA
    have HP := Lib.hid hp
    clear hp
    obtain ⟨q0, q1, q2, q3, q4, q5⟩ := set6 r0 r1 r2 r3 r4 r5 (.int .i64 ek) (.int .i64 ec) (.int .i64 et) (.int .i64 er) (.int .i64 em) (.int .i64 ep)
    go_wp2
    refine bodyPost_ret (by simp [results, Tryz.results13, go_sem, q0, q1, q2, q3, q4, q5] <;> rfl) rfl ?_
    rw [HP.out]
    exact ⟨rfl, HB9.out.trans ((put6_below (w := w9) (Nat.le_refl W.heap.size) (.int .i64 ek) (.int .i64 ec) (.int .i64 et) (.int .i64 er) (.int .i64 em) (.int .i64 ep)))⟩
end Go.Proofs.YtjpjlfjaapfnkaaGreatDoor
namespace Go.Proofs.YtjpjlfjaapfnkaaGreatDoor
open Go.ChangeShapes Go.WideShapes Go.ChangeAt Go.RowKit
open C20 (Ev formB evC)
def Is7 (w : World) (B : Nat) (e : Ev) : Prop :=
 w.cell? ⟨B, 0, none⟩ = some (.int .i64 e.kind) ∧ w.cell? ⟨B, 1, none⟩ = some (.int .i64 e.client) ∧ w.cell? ⟨B, 2, none⟩ = some (.int .i64 e.tx) ∧ w.cell? ⟨B, 3, none⟩ = some (.int .i64 e.table) ∧ w.cell? ⟨B, 4, none⟩ = some (.int .i64 e.row) ∧ w.cell? ⟨B, 5, none⟩ = some (.int .i64 e.mode) ∧ w.cell? ⟨B, 6, none⟩ = some (.int .i64 e.code)
def Is6 (w : World) (B : Nat) (e : Ent) : Prop :=
 w.cell? ⟨B, 0, none⟩ = some (.int .i64 e.k) ∧ w.cell? ⟨B, 1, none⟩ = some (.int .i64 e.c) ∧ w.cell? ⟨B, 2, none⟩ = some (.int .i64 e.t) ∧ w.cell? ⟨B, 3, none⟩ = some (.int .i64 e.r) ∧ w.cell? ⟨B, 4, none⟩ = some (.int .i64 e.m) ∧ w.cell? ⟨B, 5, none⟩ = some (.int .i64 e.p)
theorem Is7.below {a b : World} {B : Nat} {e : Ev} (h : Is7 a B e) (hb : Below a.heap.size a b) : Is7 b B e := by
 obtain ⟨h0, h1, h2, h3, h4, h5, h6⟩ := h
 exact ⟨cell_keep hb h0, cell_keep hb h1, cell_keep hb h2, cell_keep hb h3, cell_keep hb h4, cell_keep hb h5, cell_keep hb h6⟩
theorem Is6.below {a b : World} {B : Nat} {e : Ent} (h : Is6 a B e) (hb : Below a.heap.size a b) : Is6 b B e := by
 obtain ⟨h0, h1, h2, h3, h4, h5⟩ := h
 exact ⟨cell_keep hb h0, cell_keep hb h1, cell_keep hb h2, cell_keep hb h3, cell_keep hb h4, cell_keep hb h5⟩
theorem al_ent : entT ⟨3, 1, 3, 4, 4, 0⟩ = [108, 111, 99, 107, 32, 49, 32, 51, 46, 52, 32, 88] := by
 show jnL 32 [entName 3, decL 1, textL 3 4, modeL 4] = _
 rw [show decL 1 = digL 1 from dec_digs 1 (by omega)]
 decide
theorem al_ev : evT ⟨3, 0, 2, 3, 4, 4, 0⟩ = [103, 114, 97, 110, 116, 101, 100, 32, 50, 32, 51, 46, 52, 32, 88] := by
 show jnL 32 [evName 3, decL 2, textL 3 4, modeL 4] = _
 rw [show decL 2 = digL 2 from dec_digs 2 (by omega)]
 decide
theorem al_parse : entP [108, 111, 99, 107, 32, 49, 32, 51, 46, 52, 32, 89] = none := by
 unfold entP
 rw [show spL 32 [108, 111, 99, 107, 32, 49, 32, 51, 46, 52, 32, 89] = [[108, 111, 99, 107], [49], [51, 46, 52], [89]] from by decide]
 simp only
 rw [show entNo [108, 111, 99, 107] = 3 from by decide]
 unfold entR
 simp only
 rw [show modeT [89] = 0 from by decide]
 split <;> rfl
set_option maxRecDepth 100000 in
set_option maxHeartbeats 1000000 in
theorem alive_true (w : World) (hT : TxW w) (hG : 9 ≤ w.heap.size) :
 Calls Tryz.prog 9 #[] w fun e w' => e = .returned (.bool true) ∧ Below w.heap.size w w' := by
 have hbA : Below w.heap.size w (w.alloc (.cells #[.int .i64 3, .int .i64 4] 23)) := (Below.refl _ _).alloc (Nat.le_refl _) _
 have HE := Lib.hid (entry_ok ⟨3, 1, 3, 4, 4, 0⟩ (by decide) (w.alloc (.cells #[.int .i64 3, .int .i64 4] 23)) (hT.below hbA))
 rw [show bsA (entT ⟨3, 1, 3, 4, 4, 0⟩) = ⟨#[108, 111, 99, 107, 32, 49, 32, 51, 46, 52, 32, 88]⟩ from by rw [al_ent]; rfl] at HE
 have c0 : (w.alloc (.cells #[.int .i64 3, .int .i64 4] 23)).cell? ⟨w.heap.size, 0, none⟩ = some (.int .i64 3) := by simp
 have c1 : (w.alloc (.cells #[.int .i64 3, .int .i64 4] 23)).cell? ⟨w.heap.size, 1, none⟩ = some (.int .i64 4) := by simp
 unfold entA at HE
 simp only at HE
 have HT := Lib.hid hT
 have HG := Lib.hid hG
 clear hT hG
 go_enter Tryz.func9, Tryz.ntmps9
 go_wp2_with fail
 refine HE.out.mono ?_
 rintro e w1 ⟨rfl, hb1⟩
 have hb1' := hbA.trans (hb1.mono hbA.size)
 have d0 := cell_keep hb1 c0
 have d1 := cell_keep hb1 c1
 clear c0 c1 HE
 have HV := Lib.hid (event_ok ⟨3, 0, 2, 3, 4, 4, 0⟩ (by decide) w1 (HT.out.below hb1'))
 rw [show bsA (evT ⟨3, 0, 2, 3, 4, 4, 0⟩) = ⟨#[103, 114, 97, 110, 116, 101, 100, 32, 50, 32, 51, 46, 52, 32, 88]⟩ from by rw [al_ev]; rfl] at HV
 unfold evC at HV
 simp only at HV
 go_wp2_with fail
 refine HV.out.mono ?_
 rintro e w2 ⟨rfl, hb2⟩
 have hb2' := hb1'.trans (hb2.mono hb1'.size)
 clear d0 d1 HV
 have HP := Lib.hid (parse_entry ⟨#[108, 111, 99, 107, 32, 49, 32, 51, 46, 52, 32, 89]⟩ w2 (HT.out.below hb2') (by decide) (Nat.le_trans HG.out hb2'.size))
 rw [show entP (⟨#[108, 111, 99, 107, 32, 49, 32, 51, 46, 52, 32, 89]⟩ : ByteArray).data.toList = none from al_parse] at HP
 go_wp2_with fail
 refine HP.out.mono ?_
 rintro e w3 ⟨hE3, hb3⟩
 obtain rfl : e = .returned (.tuple #[.agg #[.int .i64 0, .int .i64 0, .int .i64 0, .int .i64 0, .int .i64 0, .int .i64 0], .iface 70 (.int .i64 5)]) := hE3
 have hb3' := hb2'.trans (hb3.mono hb2'.size)
 have hbB := hb3'.alloc hb3'.size (.cells #[.int .i64 0, .int .i64 0, .int .i64 0, .int .i64 0, .int .i64 0, .int .i64 0] 33)
 clear HP
 have HC := Lib.hid (fun W => code_errno 5 W (by decide) (by decide))
 go_wp2_with fail
 refine (HC.out _).mono ?_
 rintro e w4 ⟨rfl, rfl⟩
 go_wp2
 go_ret
 exact ⟨rfl, hbB⟩
end Go.Proofs.YtjpjlfjaapfnkaaGreatDoor

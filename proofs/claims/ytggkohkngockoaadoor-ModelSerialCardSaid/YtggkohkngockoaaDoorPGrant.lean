/-
  model.granted: a lock is granted. No conditions.
-/
import Derived.Test.YtggkohkngockoaaDoorPlayS
import Derived.Test.YtggkohkngockoaaDoorPFind
import Derived.LoopTactic
import Derived.StillTailTactics
namespace Go.Proofs.YtggkohkngockoaaDoor
open Go.ChangeShapes Go.WideShapes Go.ChangeAt Go.RowKit Go.Maps
set_option linter.unusedVariables false
set_option linter.unusedSimpArgs false

theorem got_info : (Tryd.prog.info? 122).map (fun i => (i.zero, i.size, i.bytes)) = some (some (.agg #[.int .i64 0, .int .i64 0, .int .i64 0, .int .i64 0]), 4, 32) := by kernel_rfl
theorem has_below {w w' : World} {mb : Nat} {l : List Got} (h : HasX w mb l) (hb : Below w.heap.size w w') : HasX w' mb l := has_at h (hb.block mb (has_lt h))


set_option maxRecDepth 100000 in
set_option maxHeartbeats 4000000 in
theorem granted_no (b mb : Nat) (l : List Got) (y c x t r m q p : Int) (w : World) (c7 : w.cell? ⟨b, 7, none⟩ = some (.int .i64 y)) (c8 : w.cell? ⟨b, 8, none⟩ = some (.map (some mb))) (hX : HasX w mb l) (hG : GotOk l) (hy : 0 ≤ y ∧ y ≤ 4) (hT : (Lit.int .i64 t).wf = true) (hR : (Lit.int .i64 r).wf = true)
    (haim : ¬ leastI (modeOf t r l) y = m) :
    Calls Tryd.prog 49 #[.pointer (some ⟨b, 0, none⟩), .agg #[.int .i64 3, .int .i64 c, .int .i64 x, .int .i64 t, .int .i64 r, .int .i64 m, .int .i64 q], .int .i64 p] w fun e w' => e = .returned (.iface 51 (.int .i64 11)) ∧ Below w.heap.size w w' := by
  obtain ⟨w1, hw1⟩ : ∃ W, w.alloc (.cells #[.int .i64 3, .int .i64 c, .int .i64 x, .int .i64 t, .int .i64 r, .int .i64 m, .int .i64 q] 43) = W := ⟨_, rfl⟩
  have hb1 : Below w.heap.size w w1 := by rw [← hw1]; exact (Below.refl _ _).alloc (Nat.le_refl _) _
  have hs1 : w1.heap.size = w.heap.size + 1 := by rw [← hw1]; simp
  have E3 : w1.cell? ⟨w.heap.size, 3, none⟩ = some (.int .i64 t) := by rw [← hw1]; simp
  have E4 : w1.cell? ⟨w.heap.size, 4, none⟩ = some (.int .i64 r) := by rw [← hw1]; simp
  have E5 : w1.cell? ⟨w.heap.size, 5, none⟩ = some (.int .i64 m) := by rw [← hw1]; simp
  have C7 := cell_keep hb1 c7
  have C8 := cell_keep hb1 c8
  have hlk := fun n => (has_below hX (below_drewN hb1 n)).look hG hT hR
  have HW1 := Lib.hid hw1
  have HB1 := Lib.hid hb1
  have HS1 := Lib.hid hs1
  clear hw1 hb1 hs1
  have HX := Lib.hid hX
  have HT := Lib.hid hT
  have HR := Lib.hid hR
  have HC7 := Lib.hid c7
  have HC8 := Lib.hid c8
  have HG := Lib.hid hG
  have hin := modeOf_in hG t r
  obtain ⟨a, ha⟩ : ∃ a, modeOf t r l = a := ⟨_, rfl⟩
  rw [ha] at hlk hin haim
  have HA := Lib.hid ha
  obtain ⟨aim, hai⟩ : ∃ aim, leastI a y = aim := ⟨_, rfl⟩
  have HL := Lib.hid (fun W => mleast_ok a y W hin hy)
  have hli := leastI_in a y
  rw [hai] at HL haim hli
  have HI := Lib.hid hli
  clear hli
  clear ha hX hT hR c7 c8 hG hai
  go_enter Tryd.func49, Tryd.ntmps49
  go_wp2_with fail
  rw [HW1.out]
  go_quiet ((go_at_call 52; exact Calls.quiet_of_same ((HL.out _).mono (fun _ _ h => ⟨h.1, h.2.symm⟩))))
  go_wp2
  go_ret
  exact ⟨rfl, below_drewN HB1.out _⟩

theorem mneed_bad (m : Int) (w : World) (h : ¬ needE m = 0) :
    Calls Tryd.prog 53 #[.int .i64 m] w fun e w' => e = .returned (.tuple #[.int .i64 (needI m), .iface 51 (.int .i64 (needE m))]) ∧ w = w' := by
  have := mneed_any m w
  unfold errV at this
  rwa [if_neg h] at this
theorem mneed_good (m : Int) (w : World) (h : needE m = 0) :
    Calls Tryd.prog 53 #[.int .i64 m] w fun e w' => e = .returned (.tuple #[.int .i64 (needI m), .nilIface]) ∧ w = w' := by
  have := mneed_any m w
  unfold errV at this
  rwa [if_pos h] at this

set_option maxRecDepth 100000 in
set_option maxHeartbeats 4000000 in
theorem granted_no2 (b mb : Nat) (l : List Got) (y c x t r m q p : Int) (w : World) (c7 : w.cell? ⟨b, 7, none⟩ = some (.int .i64 y)) (c8 : w.cell? ⟨b, 8, none⟩ = some (.map (some mb))) (hX : HasX w mb l) (hG : GotOk l) (hy : 0 ≤ y ∧ y ≤ 4) (hT : (Lit.int .i64 t).wf = true) (hR : (Lit.int .i64 r).wf = true)
    (haim : leastI (modeOf t r l) y = m) (hr : 0 < r) (hn : ¬ needE y = 0) :
    Calls Tryd.prog 49 #[.pointer (some ⟨b, 0, none⟩), .agg #[.int .i64 3, .int .i64 c, .int .i64 x, .int .i64 t, .int .i64 r, .int .i64 m, .int .i64 q], .int .i64 p] w fun e w' => e = .returned (.iface 51 (.int .i64 11)) ∧ Below w.heap.size w w' := by
  have HN := Lib.hid hn
  clear hn
  obtain ⟨d, hd⟩ : ∃ d, modeOf t 0 l = d := ⟨_, rfl⟩
  have HD := Lib.hid hd
  clear hd
  obtain ⟨w1, hw1⟩ : ∃ W, w.alloc (.cells #[.int .i64 3, .int .i64 c, .int .i64 x, .int .i64 t, .int .i64 r, .int .i64 m, .int .i64 q] 43) = W := ⟨_, rfl⟩
  have hb1 : Below w.heap.size w w1 := by rw [← hw1]; exact (Below.refl _ _).alloc (Nat.le_refl _) _
  have hs1 : w1.heap.size = w.heap.size + 1 := by rw [← hw1]; simp
  have E3 : w1.cell? ⟨w.heap.size, 3, none⟩ = some (.int .i64 t) := by rw [← hw1]; simp
  have E4 : w1.cell? ⟨w.heap.size, 4, none⟩ = some (.int .i64 r) := by rw [← hw1]; simp
  have E5 : w1.cell? ⟨w.heap.size, 5, none⟩ = some (.int .i64 m) := by rw [← hw1]; simp
  have C7 := cell_keep hb1 c7
  have C8 := cell_keep hb1 c8
  have hlk := fun n => (has_below hX (below_drewN hb1 n)).look hG hT hR
  have HW1 := Lib.hid hw1
  have HB1 := Lib.hid hb1
  have HS1 := Lib.hid hs1
  clear hw1 hb1 hs1
  have HX := Lib.hid hX
  have HT := Lib.hid hT
  have HR := Lib.hid hR
  have HC7 := Lib.hid c7
  have HC8 := Lib.hid c8
  have HG := Lib.hid hG
  have hin := modeOf_in hG t r
  obtain ⟨a, ha⟩ : ∃ a, modeOf t r l = a := ⟨_, rfl⟩
  rw [ha] at hlk hin haim
  have HA := Lib.hid ha
  obtain ⟨aim, hai⟩ : ∃ aim, leastI a y = aim := ⟨_, rfl⟩
  have HL := Lib.hid (fun W => mleast_ok a y W hin hy)
  have hli := leastI_in a y
  rw [hai] at HL haim hli
  have HI := Lib.hid hli
  clear hli
  clear ha hX hT hR c7 c8 hG hai
  go_enter Tryd.func49, Tryd.ntmps49
  go_wp2_with fail
  rw [HW1.out]
  go_quiet ((go_at_call 52; exact Calls.quiet_of_same ((HL.out _).mono (fun _ _ h => ⟨h.1, h.2.symm⟩))))
  subst haim
  go_wp2_with (go_at_call 53; refine (mneed_bad _ _ HN.out).mono ?_; rintro e w' ⟨rfl, rfl⟩)
  go_wp2_with fail
  generalize hw2 : World.drewN w1 _ = w2
  have hb2 : Below w.heap.size w w2 := by rw [← hw2]; exact below_drewN HB1.out _
  have F3 : w2.cell? ⟨w.heap.size, 3, none⟩ = some (.int .i64 t) := by rw [← hw2]; exact E3
  have F4 : w2.cell? ⟨w.heap.size, 4, none⟩ = some (.int .i64 r) := by rw [← hw2]; exact E4
  have F7 := cell_keep hb2 HC7.out
  have F8 := cell_keep hb2 HC8.out
  have hlk2 := fun n => (has_below HX.out (below_drewN hb2 n)).look HG.out HT.out (wf_of 0 (by decide))
  rw [HD.out] at hlk2
  have HB2 := Lib.hid hb2
  clear hw2 hb2 C7 C8 E3 E4 E5 hlk
  go_quiet (fail)
  go_wp2
  go_ret
  exact ⟨rfl, below_drewN HB2.out _⟩
set_option maxRecDepth 100000 in
set_option maxHeartbeats 4000000 in
theorem granted_no3 (b mb : Nat) (l : List Got) (y c x t r m q p : Int) (w : World) (c7 : w.cell? ⟨b, 7, none⟩ = some (.int .i64 y)) (c8 : w.cell? ⟨b, 8, none⟩ = some (.map (some mb))) (hX : HasX w mb l) (hG : GotOk l) (hy : 0 ≤ y ∧ y ≤ 4) (hT : (Lit.int .i64 t).wf = true) (hR : (Lit.int .i64 r).wf = true)
    (haim : leastI (modeOf t r l) y = m) (hr : 0 < r) (hn : needE y = 0) (hc : covB (modeOf t 0 l) (needI y) = false) :
    Calls Tryd.prog 49 #[.pointer (some ⟨b, 0, none⟩), .agg #[.int .i64 3, .int .i64 c, .int .i64 x, .int .i64 t, .int .i64 r, .int .i64 m, .int .i64 q], .int .i64 p] w fun e w' => e = .returned (.iface 51 (.int .i64 11)) ∧ Below w.heap.size w w' := by
  have HN := Lib.hid hn
  clear hn
  obtain ⟨d, hd⟩ : ∃ d, modeOf t 0 l = d := ⟨_, rfl⟩
  rw [hd] at hc
  have HD := Lib.hid hd
  have HC := Lib.hid (fun W => cov_any d (needI y) W)
  rw [hc] at HC
  clear hd hc
  obtain ⟨w1, hw1⟩ : ∃ W, w.alloc (.cells #[.int .i64 3, .int .i64 c, .int .i64 x, .int .i64 t, .int .i64 r, .int .i64 m, .int .i64 q] 43) = W := ⟨_, rfl⟩
  have hb1 : Below w.heap.size w w1 := by rw [← hw1]; exact (Below.refl _ _).alloc (Nat.le_refl _) _
  have hs1 : w1.heap.size = w.heap.size + 1 := by rw [← hw1]; simp
  have E3 : w1.cell? ⟨w.heap.size, 3, none⟩ = some (.int .i64 t) := by rw [← hw1]; simp
  have E4 : w1.cell? ⟨w.heap.size, 4, none⟩ = some (.int .i64 r) := by rw [← hw1]; simp
  have E5 : w1.cell? ⟨w.heap.size, 5, none⟩ = some (.int .i64 m) := by rw [← hw1]; simp
  have C7 := cell_keep hb1 c7
  have C8 := cell_keep hb1 c8
  have hlk := fun n => (has_below hX (below_drewN hb1 n)).look hG hT hR
  have HW1 := Lib.hid hw1
  have HB1 := Lib.hid hb1
  have HS1 := Lib.hid hs1
  clear hw1 hb1 hs1
  have HX := Lib.hid hX
  have HT := Lib.hid hT
  have HR := Lib.hid hR
  have HC7 := Lib.hid c7
  have HC8 := Lib.hid c8
  have HG := Lib.hid hG
  have hin := modeOf_in hG t r
  obtain ⟨a, ha⟩ : ∃ a, modeOf t r l = a := ⟨_, rfl⟩
  rw [ha] at hlk hin haim
  have HA := Lib.hid ha
  obtain ⟨aim, hai⟩ : ∃ aim, leastI a y = aim := ⟨_, rfl⟩
  have HL := Lib.hid (fun W => mleast_ok a y W hin hy)
  have hli := leastI_in a y
  rw [hai] at HL haim hli
  have HI := Lib.hid hli
  clear hli
  clear ha hX hT hR c7 c8 hG hai
  go_enter Tryd.func49, Tryd.ntmps49
  go_wp2_with fail
  rw [HW1.out]
  go_quiet ((go_at_call 52; exact Calls.quiet_of_same ((HL.out _).mono (fun _ _ h => ⟨h.1, h.2.symm⟩))))
  subst haim
  go_wp2_with (go_at_call 53; refine (mneed_good _ _ HN.out).mono ?_; rintro e w' ⟨rfl, rfl⟩)
  go_wp2_with fail
  generalize hw2 : World.drewN w1 _ = w2
  have hb2 : Below w.heap.size w w2 := by rw [← hw2]; exact below_drewN HB1.out _
  have F3 : w2.cell? ⟨w.heap.size, 3, none⟩ = some (.int .i64 t) := by rw [← hw2]; exact E3
  have F4 : w2.cell? ⟨w.heap.size, 4, none⟩ = some (.int .i64 r) := by rw [← hw2]; exact E4
  have F7 := cell_keep hb2 HC7.out
  have F8 := cell_keep hb2 HC8.out
  have hlk2 := fun n => (has_below HX.out (below_drewN hb2 n)).look HG.out HT.out (wf_of 0 (by decide))
  rw [HD.out] at hlk2
  have HB2 := Lib.hid hb2
  clear hw2 hb2 C7 C8 E3 E4 E5 hlk
  go_quiet ((go_at_call 54; exact Calls.quiet_of_same ((HC.out _).mono (fun _ _ h => ⟨h.1, h.2.symm⟩))))
  go_wp2
  go_ret
  exact ⟨rfl, below_drewN HB2.out _⟩

theorem plainMode {a : Int} (h : 0 ≤ a ∧ a ≤ 4) : plainElem (H := Unit) Tryd.prog 41 (.int .i64 a) = some (modeD a, []) := plainElem_int Tryd.underlying41 (wf_of _ (by omega))
/-- what a grant leaves -/
def GrantOf (w w' : World) (B b mb : Nat) (v : Value) (y : Tx) : Prop :=
  ∃ v', w'.heap[b]? = some (.cells (oneC y mb v') 115 (0, 0)) ∧ HasX w' mb y.got ∧ w'.ownsRow B 122 4 v' y.got.length (flatG y.got) ∧ (∀ k, v'.ownBlock = some k → v.ownBlock = some k ∨ w.heap.size ≤ k) ∧ (∀ k, k < w.heap.size → k ≠ b → k ≠ mb → v.ownBlock ≠ some k → w'.heap[k]? = w.heap[k]?) ∧ Below B w w'
set_option maxRecDepth 100000 in
set_option maxHeartbeats 4000000 in
theorem granted_ok1 (B b mb : Nat) (v : Value) (z : Tx) (c x t r m q p : Int) (w : World) (hb : w.heap[b]? = some (.cells (oneC z mb v) 115 (0, 0))) (hX : HasX w mb z.got) (hO : w.ownsRow B 122 4 v z.got.length (flatG z.got)) (hB : B ≤ w.heap.size) (hbb : B ≤ b ∧ B ≤ mb ∧ mb ≠ b ∧ v.ownBlock ≠ some b ∧ v.ownBlock ≠ some mb) (hG : GotOk z.got) (hy : 0 ≤ z.mode ∧ z.mode ≤ 4) (hT : (Lit.int .i64 t).wf = true) (hR : (Lit.int .i64 r).wf = true) (hn : z.got.length ≤ 1000)
    (haim : leastI (modeOf t r z.got) z.mode = m) (hr : ¬ 0 < r) :
    Calls Tryd.prog 49 #[.pointer (some ⟨b, 0, none⟩), .agg #[.int .i64 3, .int .i64 c, .int .i64 x, .int .i64 t, .int .i64 r, .int .i64 m, .int .i64 q], .int .i64 p] w fun e w' => e = .returned .nilIface ∧ GrantOf w w' B b mb v { z with opn := false, got := z.got ++ [⟨t, r, m, p⟩] } := by
  have c4 := heap_cell hb (j := 4) (u := .bool z.opn) rfl
  have c7 := heap_cell hb (j := 7) (u := .int .i64 z.mode) rfl
  have c8 := heap_cell hb (j := 8) (u := .map (some mb)) rfl
  have hf := heap_free hb (j := 4)
  have lb := lt_of_block hb
  obtain ⟨y, hyy⟩ : ∃ y, z.mode = y := ⟨_, rfl⟩
  obtain ⟨l, hll⟩ : ∃ l, z.got = l := ⟨_, rfl⟩
  have HH := Lib.hid hb
  have HO := Lib.hid hO
  have HBB := Lib.hid hbb
  rw [hyy] at c7 hy haim 
  rw [hll] at hX hG hn haim HO  ⊢
  have HLL := Lib.hid hll
  have HYY := Lib.hid hyy
  clear hb hO hbb hll hyy
  obtain ⟨w1, hw1⟩ : ∃ W, w.alloc (.cells #[.int .i64 3, .int .i64 c, .int .i64 x, .int .i64 t, .int .i64 r, .int .i64 m, .int .i64 q] 43) = W := ⟨_, rfl⟩
  have hb1 : Below w.heap.size w w1 := by rw [← hw1]; exact (Below.refl _ _).alloc (Nat.le_refl _) _
  have hs1 : w1.heap.size = w.heap.size + 1 := by rw [← hw1]; simp
  have E3 : w1.cell? ⟨w.heap.size, 3, none⟩ = some (.int .i64 t) := by rw [← hw1]; simp
  have E4 : w1.cell? ⟨w.heap.size, 4, none⟩ = some (.int .i64 r) := by rw [← hw1]; simp
  have E5 : w1.cell? ⟨w.heap.size, 5, none⟩ = some (.int .i64 m) := by rw [← hw1]; simp
  have C7 := cell_keep hb1 c7
  have C8 := cell_keep hb1 c8
  have hlk := fun n => (has_below hX (below_drewN hb1 n)).look hG hT hR
  have HW1 := Lib.hid hw1
  have HB1 := Lib.hid hb1
  have HS1 := Lib.hid hs1
  clear hw1 hb1 hs1
  have HX := Lib.hid hX
  have HT := Lib.hid hT
  have HR := Lib.hid hR
  have HC7 := Lib.hid c7
  have HC8 := Lib.hid c8
  have HG := Lib.hid hG
  have hin := modeOf_in hG t r
  obtain ⟨a, ha⟩ : ∃ a, modeOf t r l = a := ⟨_, rfl⟩
  rw [ha] at hlk hin haim
  have HA := Lib.hid ha
  obtain ⟨aim, hai⟩ : ∃ aim, leastI a y = aim := ⟨_, rfl⟩
  have HL := Lib.hid (fun W => mleast_ok a y W hin hy)
  have hli := leastI_in a y
  rw [hai] at HL haim hli
  have HI := Lib.hid hli
  clear hli
  clear ha hX hT hR c7 c8 hG hai
  go_enter Tryd.func49, Tryd.ntmps49
  go_wp2_with fail
  rw [HW1.out]
  go_quiet ((go_at_call 52; exact Calls.quiet_of_same ((HL.out _).mono (fun _ _ h => ⟨h.1, h.2.symm⟩))))
  subst haim
  have HEX1 : Hid (w1.heap[w.heap.size]? = some (.cells #[.int .i64 3, .int .i64 c, .int .i64 x, .int .i64 t, .int .i64 r, .int .i64 aim, .int .i64 q] 43 (0, 0))) := Lib.hid (by rw [← HW1.out, heap_push, if_pos rfl])
  clear C7 C8 E3 E4 E5 hlk
  generalize hw2 : World.drewN w1 nq = w2
  have HBw2 : Hid (Below w.heap.size w w2) := Lib.hid (by rw [← hw2]; exact below_drewN HB1.out nq)
  have HSZw2 : Hid (w2.heap.size = w.heap.size + 1) := Lib.hid (by rw [← hw2]; exact HS1.out)
  have HEXw2 : Hid (w2.heap[w.heap.size]? = some (.cells #[.int .i64 3, .int .i64 c, .int .i64 x, .int .i64 t, .int .i64 r, .int .i64 aim, .int .i64 q] 43 (0, 0))) := Lib.hid (by rw [← hw2]; exact HEX1.out)
  clear hw2
  have F4 := heap_cell HEXw2.out (j := 4) (u := .int .i64 r) rfl
  have F5 := heap_cell HEXw2.out (j := 5) (u := .int .i64 aim) rfl
  have D4 := cell_keep HBw2.out c4
  have DF : w2.frozen? ⟨b, 4, none⟩ = false := (HBw2.out.frozen (p := ⟨b, 4, none⟩) lb).trans hf
  go_wp2_with fail
  generalize hw3 : w2.setCell ⟨b, 4, none⟩ (.bool false) = w3
  have hs3 : w3.heap.size = w.heap.size + 1 := by rw [← hw3, ← HSZw2.out]; simp
  have lb1 := HSZw2.out
  have hk3 : ∀ k, k < w.heap.size → k ≠ b → w3.heap[k]? = w.heap[k]? := fun k hk hne => by rw [← hw3]; exact (heap_set _ b 4 _ k hne).trans (HBw2.out.block k hk)
  have hb3 : w3.heap[b]? = some (.cells (oneC { z with opn := false } mb v) 115 (0, 0)) := by rw [← hw3]; exact heap_put _ b 4 _ _ _ ((HBw2.out.block b lb).trans HH.out)
  have hB3 : Below B w w3 := by rw [← hw3]; exact (HBw2.out.mono hB).setCell HBB.out.1 _
  have he3 : w3.heap[w.heap.size]? = some (.cells #[.int .i64 3, .int .i64 c, .int .i64 x, .int .i64 t, .int .i64 r, .int .i64 aim, .int .i64 q] 43 (0, 0)) := by
    rw [← hw3]
    exact (heap_set _ b 4 _ _ (by omega)).trans HEXw2.out
  refine wp_region_still_tail 7 (by kernel_rfl) (by kernel_rfl) ?_
  simp only [List.take_succ_cons, List.take_zero, List.drop_succ_cons, List.drop_zero]
  change wpStill _ _ (World.drew w3) (fun a' => wpList _ _ _ _ a' (World.drew w3)) _ _
  generalize hw4 : World.drew w3 = w4
  have hh4 : w4.heap = w3.heap := by rw [← hw4]; rfl
  rw [← hh4] at hs3 hk3 hb3 he3
  have hB4 : Below B w w4 := by rw [← hw4]; exact hB3.drew
  have B8 := heap_cell hb3 (j := 8) (u := .map (some mb)) rfl
  have G3 := heap_cell he3 (j := 3) (u := .int .i64 t) rfl
  have G4 := heap_cell he3 (j := 4) (u := .int .i64 r) rfl
  have HS4 := Lib.hid hs3
  have HK4 := Lib.hid hk3
  have HB4 := Lib.hid hb3
  have HE4 := Lib.hid he3
  have HBW4 := Lib.hid hB4
  clear hw3 hB3 hw4 hh4 hs3 hk3 hb3 he3 hB4 D4 DF
  repeat still_step
  try refine wpStill_nil ?_
  have hX4 : HasX w4 mb l := has_at HX.out (HK4.out mb (has_lt HX.out) HBB.out.2.2.1)
  refine wpList_mapUpdate_in _ rfl _ _ _ 112 rfl 40 41 resKeyed Tryd.underlying112 (plainElem Tryd.prog 41) mb l.length (gotD l) rfl hX4 (by unfold maxLen; omega) (.agg #[.int .i64 t, .int .i64 r]) (.int .i64 aim) (resK t r) rfl rfl (keyOf_res HT.out HR.out) (modeD aim) [] (plainMode HI.out) ?_
  intro w5 hown5 hturn5
  have hg5 := hturn5.grown
  have HX5 : Hid (HasX w5 mb (l ++ [⟨t, r, aim, p⟩])) := Lib.hid (by unfold HasX; rw [gotD_snoc, List.length_append]; exact hown5)
  have hk5 : ∀ k, k < w4.heap.size → k ≠ mb → w5.heap[k]? = w4.heap[k]? := fun k hk hne => hg5.block k hk (fun e => hne (Option.some.inj e))
  have hs5 : w4.heap.size ≤ w5.heap.size := hg5.size
  have lmb := has_lt HX.out
  have hs4 := HS4.out
  have hb5 := (hk5 b (by omega) (fun e => HBB.out.2.2.1 e.symm)).trans HB4.out
  have he5 := (hk5 w.heap.size (by omega) (by omega)).trans HE4.out
  have hB5 : Below B w w5 := HBW4.out.grown hg5 (by omega) (fun k hk => by cases hk; exact HBB.out.2.1)
  have HK5 : Hid (∀ k, k < w.heap.size → k ≠ b → k ≠ mb → w5.heap[k]? = w.heap[k]?) := Lib.hid (fun k hk h1 h2 => (hk5 k (by omega) h2).trans (HK4.out k hk h1))
  clear hown5 hturn5 hg5 hk5 hX4 HK4 B8 G3 G4 HX
  go_wp2_with fail
  have hb6 : Below B w w5 := hB5
  have B9 := heap_cell hb5 (j := 9) (u := v) rfl
  have BF := heap_free hb5 (j := 9)
  have G3 := heap_cell he5 (j := 3) (u := .int .i64 t) rfl
  have G4 := heap_cell he5 (j := 4) (u := .int .i64 r) rfl
  have hO6 : w5.ownsRow B 122 4 v l.length (flatG l) := own_at HO.out (fun k hk => HK5.out k (HO.out.lt k hk).2 (fun e => HBB.out.2.2.2.1 (by rw [hk, e])) (fun e => HBB.out.2.2.2.2 (by rw [hk, e])))
  have hvw : v.ownBlock ≠ some w.heap.size := fun e => by have := (HO.out.lt _ e).2; omega
  have HVW := Lib.hid hvw
  have HVB := Lib.hid HBB.out.2.2.2.1
  have HB6 := Lib.hid hb5
  have HBW6 := Lib.hid hB5
  have HO6 := Lib.hid hO6
  have e6 : w.heap.size < w5.heap.size := by omega
  have e6' : b < w5.heap.size := by omega
  have e6m : mb < w5.heap.size := by omega
  have ne6 : ¬ b = w5.heap.size := by omega
  have ne6' : ¬ w.heap.size = w5.heap.size := by omega
  have nbw : ¬ b = w.heap.size := by omega
  have hle6 : w.heap.size ≤ w5.heap.size := by omega
  obtain ⟨i0, hi0, hz0, hz1, hz2⟩ := info_parts got_info
  clear hB5 hb6 hb5 he5 hO6 hs4 hs5 lmb HB4 HE4 HBW4 hvw
  refine wp_region_N (S := (fun w' => (w'.cell? ⟨w.heap.size, 3, none⟩ = some (.int .i64 t) ∧ w'.cell? ⟨w.heap.size, 4, none⟩ = some (.int .i64 r)) ∧ w'.cell? ⟨b, 9, none⟩ = some v)) (fun i => !(i == 14)) (by kernel_rfl) ?_ (fun hHeld => ?_)
  · (try dsimp only)
    first
      | (refine ⟨⟨?_, ?_⟩, ?_⟩ <;> assumption)
      | (refine ⟨⟨cell_keep ?_ G3, cell_keep ?_ G4⟩, cell_keep ?_ B9⟩ <;> (go_grown; done))
  refine wpAnyN_take [12, 13, 14] (i := 0) (v := ?_) rfl (by kernel_rfl) (by kernel_rfl) (by kernel_rfl) (by kernel_rfl) (by kernel_rfl) (fun _ _ _ h => h) (Or.inl ⟨by first | kernel_rfl | rfl, ?_⟩) (by assumption) ?_
  rotate_left
  focus
    intro w hSw
    (try dsimp only at hSw)
    go_simp
    try with_reducible rfl
  (try change wpAnyN _ _ _ _ _ _ _ _ (Act.put _ (some 70) _) _)
  try (unfold Act.put; dsimp only)
  refine wpAnyN_take [2, 3, 4, 11, 12, 13, 14] (i := 1) (v := ?_) rfl (by kernel_rfl) (by kernel_rfl) (by kernel_rfl) (by kernel_rfl) (by kernel_rfl) (fun _ _ _ h => h) (Or.inl ⟨by first | kernel_rfl | rfl, ?_⟩) (by assumption) ?_
  rotate_left
  focus
    intro w hSw
    (try dsimp only at hSw)
    go_simp
    try with_reducible rfl
  (try change wpAnyN _ _ _ _ _ _ _ _ (Act.put _ (some 71) _) _)
  try (unfold Act.put; dsimp only)
  refine wpAnyN_take [3, 4, 11, 12, 13, 14] (i := 2) (v := ?_) rfl (by kernel_rfl) (by kernel_rfl) (by kernel_rfl) (by kernel_rfl) (by kernel_rfl) (fun _ _ _ h => h) (Or.inl ⟨by first | kernel_rfl | rfl, ?_⟩) (by assumption) ?_
  rotate_left
  focus
    intro w hSw
    (try dsimp only at hSw)
    go_simp
    try with_reducible rfl
  (try change wpAnyN _ _ _ _ _ _ _ _ (Act.put _ (some 72) _) _)
  try (unfold Act.put; dsimp only)
  refine wpAnyN_take [4, 11, 12, 13, 14] (i := 3) (v := ?_) rfl (by kernel_rfl) (by kernel_rfl) (by kernel_rfl) (by kernel_rfl) (by kernel_rfl) (fun _ _ _ h => h) (Or.inl ⟨by first | kernel_rfl | rfl, ?_⟩) (by assumption) ?_
  rotate_left
  focus
    intro w hSw
    (try dsimp only at hSw)
    go_simp
    try with_reducible rfl
  (try change wpAnyN _ _ _ _ _ _ _ _ (Act.put _ (some 73) _) _)
  try (unfold Act.put; dsimp only)
  refine wpAnyN_take [11, 12, 13, 14] (i := 4) (v := ?_) rfl (by kernel_rfl) (by kernel_rfl) (by kernel_rfl) (by kernel_rfl) (by kernel_rfl) (fun _ _ _ h => h) (Or.inl ⟨by first | kernel_rfl | rfl, ?_⟩) (by assumption) ?_
  rotate_left
  focus
    intro w hSw
    (try dsimp only at hSw)
    go_simp
    try with_reducible rfl
  (try change wpAnyN _ _ _ _ _ _ _ _ (Act.put _ (some 74) _) _)
  try (unfold Act.put; dsimp only)
  refine wpAnyN_take [6, 9, 10, 11, 12, 13, 14] (i := 5) (v := ?_) rfl (by kernel_rfl) (by kernel_rfl) (by kernel_rfl) (by kernel_rfl) (by kernel_rfl) (fun _ _ _ h => h) (Or.inl ⟨by first | kernel_rfl | rfl, ?_⟩) (by assumption) ?_
  rotate_left
  focus
    intro w hSw
    (try dsimp only at hSw)
    go_simp
    try with_reducible rfl
  (try change wpAnyN _ _ _ _ _ _ _ _ (Act.put _ (some 75) _) _)
  try (unfold Act.put; dsimp only)
  refine wpAnyN_take [9, 10, 11, 12, 13, 14] (i := 6) (v := ?_) rfl (by kernel_rfl) (by kernel_rfl) (by kernel_rfl) (by kernel_rfl) (by kernel_rfl) (fun _ _ _ h => h) (Or.inl ⟨by first | kernel_rfl | rfl, ?_⟩) (by assumption) ?_
  rotate_left
  focus
    intro w hSw
    (try dsimp only at hSw)
    go_simp
    try with_reducible rfl
  (try change wpAnyN _ _ _ _ _ _ _ _ (Act.put _ (some 76) _) _)
  try (unfold Act.put; dsimp only)
  refine wpAnyN_take [9, 10, 11, 12, 13, 14] (i := 7) (v := ?_) rfl (by kernel_rfl) (by kernel_rfl) (by kernel_rfl) (by kernel_rfl) (by kernel_rfl) (fun _ _ _ h => h) (Or.inl ⟨by first | kernel_rfl | rfl, ?_⟩) (by assumption) ?_
  rotate_left
  focus
    intro w hSw
    (try dsimp only at hSw)
    go_simp
    try with_reducible rfl
  (try change wpAnyN _ _ _ _ _ _ _ _ (Act.put _ (some 77) _) _)
  try (unfold Act.put; dsimp only)
  refine wpAnyN_take [9, 10, 11, 12, 13, 14] (i := 8) (v := ?_) rfl (by kernel_rfl) (by kernel_rfl) (by kernel_rfl) (by kernel_rfl) (by kernel_rfl) (fun _ _ _ h => h) (Or.inl ⟨by first | kernel_rfl | rfl, ?_⟩) (by assumption) ?_
  rotate_left
  focus
    intro w hSw
    (try dsimp only at hSw)
    go_simp
    try with_reducible rfl
  (try change wpAnyN _ _ _ _ _ _ _ _ (Act.put _ (some 78) _) _)
  try (unfold Act.put; dsimp only)
  refine wpAnyN_take [10, 11, 12, 13, 14] (i := 9) (v := ?_) rfl (by kernel_rfl) (by kernel_rfl) (by kernel_rfl) (by kernel_rfl) (by kernel_rfl) (fun _ _ _ h => h) (Or.inl ⟨by first | kernel_rfl | rfl, ?_⟩) (by assumption) ?_
  rotate_left
  focus
    intro w hSw
    (try dsimp only at hSw)
    go_simp
    try with_reducible rfl
  (try change wpAnyN _ _ _ _ _ _ _ _ (Act.put _ (some 79) _) _)
  try (unfold Act.put; dsimp only)
  refine wpAnyN_ready (rs := [10]) (by kernel_rfl) (by simp) ?_
  refine AllReadyN.cons rfl (fun K hK => ?_) ?_
  · go_simp
    refine hK.out _ _ ?_ (fun hHeld => ?_)
    · (try dsimp only)
      first
        | (refine ⟨⟨?_, ?_⟩, ?_⟩ <;> assumption)
        | (refine ⟨⟨cell_keep ?_ G3, cell_keep ?_ G4⟩, cell_keep ?_ B9⟩ <;> (go_grown; done))
    clear hK K
    (try change wpAnyN _ _ _ _ _ _ _ _ (Act.put _ (some 80) _) _)
    try (unfold Act.put; dsimp only)
    refine wpAnyN_ready (rs := [11]) (by kernel_rfl) (by simp) ?_
    refine AllReadyN.cons rfl (fun K hK => ?_) ?_
    · refine step_append_lies _ (by rfl) _ _ _ (by rfl) B 122 i0 _ 4 32 Tryd.underlying113 hi0 hz0 hz1 hz2 rfl (by decide) v l.length (flatG l) (by rfl) (own_below HO6.out (by go_grown)) _ 1 1 [.int .i64 t, .int .i64 r, .int .i64 aim, .int .i64 p] (by rfl) (by rfl) (World.news_of_block (cs := #[.int .i64 t, .int .i64 r, .int .i64 aim, .int .i64 p]) (t := 122) (fr := (0, 0)) (by (repeat (first | rw [heap_drew] | rw [heap_push])); simp)) (by simp [Value.oneCell']) (by decide) (by unfold maxLen; omega) (by omega) (by simp <;> omega) _ rfl ?_
      intro gg cap w7 hown7 hgrow hat hlt7
      have h7 := append_keep hgrow (by go_grown) HB6.out HVB.out
      have y3 := append_cell hgrow (by go_grown) G3 HVW.out
      have y4 := append_cell hgrow (by go_grown) G4 HVW.out
      have k7 := heap_cell h7 (j := 9) (u := v) rfl
      have kf7 := heap_free h7 (j := 9)
      have HK7 : Hid (∀ k, k < w5.heap.size → v.ownBlock ≠ some k → w7.heap[k]? = w5.heap[k]?) := Lib.hid (fun k hk hne => append_other hgrow (by go_grown) hk hne)
      have HBW7 : Hid (Below B w w7) := Lib.hid (append_below hgrow (by go_grown) HBW6.out (by omega) (fun k hk => (HO6.out.lt k hk).1))
      have H7 := Lib.hid h7
      have HO7 := Lib.hid hown7
      clear h7 hgrow hown7
      refine hK.out _ _ ?_ (fun hHeld => ?_)
      · (try dsimp only)
        first
          | (refine ⟨⟨?_, ?_⟩, ?_⟩ <;> assumption)
          | (refine ⟨⟨cell_keep ?_ G3, cell_keep ?_ G4⟩, cell_keep ?_ B9⟩ <;> (go_grown; done))
      clear hK K
      (try change wpAnyN _ _ _ _ _ _ _ _ (Act.put _ (some 81) _) _)
      try (unfold Act.put; dsimp only)
      refine wpAnyN_take [13, 14] (i := 12) (v := ?_) rfl (by kernel_rfl) (by kernel_rfl) (by kernel_rfl) (by kernel_rfl) (by kernel_rfl) (fun _ _ _ h => h) (Or.inl ⟨by first | kernel_rfl | rfl, ?_⟩) (by assumption) ?_
      rotate_left
      focus
        intro w hSw
        (try dsimp only at hSw)
        go_simp
        try with_reducible rfl
      (try change wpAnyN _ _ _ _ _ _ _ _ (Act.put _ (some 82) _) _)
      try (unfold Act.put; dsimp only)
      refine wpAnyN_take [14] (i := 13) (v := ?_) rfl (by kernel_rfl) (by kernel_rfl) (by kernel_rfl) (by kernel_rfl) (by kernel_rfl) (fun _ _ _ h => h) (Or.inl ⟨by first | kernel_rfl | rfl, ?_⟩) (by assumption) ?_
      rotate_left
      focus
        intro w hSw
        (try dsimp only at hSw)
        go_simp
        try with_reducible rfl
      (try change wpAnyN _ _ _ _ _ _ _ _ (Act.put _ (some 83) _) _)
      try (unfold Act.put; dsimp only)
      refine wpAnyN_ready (rs := [14]) (by kernel_rfl) (by simp) ?_
      refine AllReadyN.last rfl rfl (fun K hK => ?_) ?_
      · go_simp
        refine hK.out _ _ ?_
        clear hK K
        try (unfold Act.put; dsimp only)
        refine wpAnyN_done (by kernel_rfl) ?_ _
        go_wp2
        go_ret
        refine ⟨rfl, .slice (some ⟨gg, 0, none⟩) (l.length + 1) cap, ?_, ?_, ?_, ?_, ?_, ?_⟩
        · exact (heap_put w7 b 9 _ _ _ H7.out).trans rfl
        · exact has_at HX5.out ((heap_set w7 b 9 _ mb HBB.out.2.2.1).trans (HK7.out mb e6m HBB.out.2.2.2.2))
        · rw [flatG_snoc, List.length_append]
          refine own_at HO7.out fun k hk => heap_set w7 b 9 _ k ?_
          intro e
          simp [Value.ownBlock] at hk
          rcases hat with h | h
          · exact HVB.out (by rw [h, ← e, hk])
          · first | omega | (simp at h; omega)
        · intro k hk
          simp [Value.ownBlock] at hk
          subst hk
          rcases hat with h | h
          · exact .inl h
          · right; first | omega | (simp at h; omega)
        · intro k hk h1 h2 h3
          exact (heap_set w7 b 9 _ k h1).trans ((HK7.out k (by omega) h3).trans (HK5.out k hk h1 h2))
        · exact HBW7.out.setCell HBB.out.1 _
      exact AllReadyN.nil
    exact AllReadyN.nil
  exact AllReadyN.nil
set_option maxRecDepth 100000 in
set_option maxHeartbeats 4000000 in
theorem granted_ok2 (B b mb : Nat) (v : Value) (z : Tx) (c x t r m q p : Int) (w : World) (hb : w.heap[b]? = some (.cells (oneC z mb v) 115 (0, 0))) (hX : HasX w mb z.got) (hO : w.ownsRow B 122 4 v z.got.length (flatG z.got)) (hB : B ≤ w.heap.size) (hbb : B ≤ b ∧ B ≤ mb ∧ mb ≠ b ∧ v.ownBlock ≠ some b ∧ v.ownBlock ≠ some mb) (hG : GotOk z.got) (hy : 0 ≤ z.mode ∧ z.mode ≤ 4) (hT : (Lit.int .i64 t).wf = true) (hR : (Lit.int .i64 r).wf = true) (hn : z.got.length ≤ 1000)
    (haim : leastI (modeOf t r z.got) z.mode = m) (hr : 0 < r) (hne : needE z.mode = 0) (hcv : covB (modeOf t 0 z.got) (needI z.mode) = true) :
    Calls Tryd.prog 49 #[.pointer (some ⟨b, 0, none⟩), .agg #[.int .i64 3, .int .i64 c, .int .i64 x, .int .i64 t, .int .i64 r, .int .i64 m, .int .i64 q], .int .i64 p] w fun e w' => e = .returned .nilIface ∧ GrantOf w w' B b mb v { z with opn := false, got := z.got ++ [⟨t, r, m, p⟩] } := by
  have c4 := heap_cell hb (j := 4) (u := .bool z.opn) rfl
  have c7 := heap_cell hb (j := 7) (u := .int .i64 z.mode) rfl
  have c8 := heap_cell hb (j := 8) (u := .map (some mb)) rfl
  have hf := heap_free hb (j := 4)
  have lb := lt_of_block hb
  obtain ⟨y, hyy⟩ : ∃ y, z.mode = y := ⟨_, rfl⟩
  obtain ⟨l, hll⟩ : ∃ l, z.got = l := ⟨_, rfl⟩
  have HH := Lib.hid hb
  have HO := Lib.hid hO
  have HBB := Lib.hid hbb
  rw [hyy] at c7 hy haim hne hcv
  rw [hll] at hX hG hn haim HO hcv ⊢
  have HLL := Lib.hid hll
  have HYY := Lib.hid hyy
  clear hb hO hbb hll hyy
  have HN := Lib.hid hne
  obtain ⟨d, hd⟩ : ∃ d, modeOf t 0 l = d := ⟨_, rfl⟩
  rw [hd] at hcv
  have HD := Lib.hid hd
  have HC := Lib.hid (fun W => cov_any d (needI y) W)
  rw [hcv] at HC
  clear hd hcv hne
  obtain ⟨w1, hw1⟩ : ∃ W, w.alloc (.cells #[.int .i64 3, .int .i64 c, .int .i64 x, .int .i64 t, .int .i64 r, .int .i64 m, .int .i64 q] 43) = W := ⟨_, rfl⟩
  have hb1 : Below w.heap.size w w1 := by rw [← hw1]; exact (Below.refl _ _).alloc (Nat.le_refl _) _
  have hs1 : w1.heap.size = w.heap.size + 1 := by rw [← hw1]; simp
  have E3 : w1.cell? ⟨w.heap.size, 3, none⟩ = some (.int .i64 t) := by rw [← hw1]; simp
  have E4 : w1.cell? ⟨w.heap.size, 4, none⟩ = some (.int .i64 r) := by rw [← hw1]; simp
  have E5 : w1.cell? ⟨w.heap.size, 5, none⟩ = some (.int .i64 m) := by rw [← hw1]; simp
  have C7 := cell_keep hb1 c7
  have C8 := cell_keep hb1 c8
  have hlk := fun n => (has_below hX (below_drewN hb1 n)).look hG hT hR
  have HW1 := Lib.hid hw1
  have HB1 := Lib.hid hb1
  have HS1 := Lib.hid hs1
  clear hw1 hb1 hs1
  have HX := Lib.hid hX
  have HT := Lib.hid hT
  have HR := Lib.hid hR
  have HC7 := Lib.hid c7
  have HC8 := Lib.hid c8
  have HG := Lib.hid hG
  have hin := modeOf_in hG t r
  obtain ⟨a, ha⟩ : ∃ a, modeOf t r l = a := ⟨_, rfl⟩
  rw [ha] at hlk hin haim
  have HA := Lib.hid ha
  obtain ⟨aim, hai⟩ : ∃ aim, leastI a y = aim := ⟨_, rfl⟩
  have HL := Lib.hid (fun W => mleast_ok a y W hin hy)
  have hli := leastI_in a y
  rw [hai] at HL haim hli
  have HI := Lib.hid hli
  clear hli
  clear ha hX hT hR c7 c8 hG hai
  go_enter Tryd.func49, Tryd.ntmps49
  go_wp2_with fail
  rw [HW1.out]
  go_quiet ((go_at_call 52; exact Calls.quiet_of_same ((HL.out _).mono (fun _ _ h => ⟨h.1, h.2.symm⟩))))
  subst haim
  have HEX1 : Hid (w1.heap[w.heap.size]? = some (.cells #[.int .i64 3, .int .i64 c, .int .i64 x, .int .i64 t, .int .i64 r, .int .i64 aim, .int .i64 q] 43 (0, 0))) := Lib.hid (by rw [← HW1.out, heap_push, if_pos rfl])
  clear C7 C8 E3 E4 E5 hlk
  generalize hw2 : World.drewN w1 nq = w2
  have HBw2 : Hid (Below w.heap.size w w2) := Lib.hid (by rw [← hw2]; exact below_drewN HB1.out nq)
  have HSZw2 : Hid (w2.heap.size = w.heap.size + 1) := Lib.hid (by rw [← hw2]; exact HS1.out)
  have HEXw2 : Hid (w2.heap[w.heap.size]? = some (.cells #[.int .i64 3, .int .i64 c, .int .i64 x, .int .i64 t, .int .i64 r, .int .i64 aim, .int .i64 q] 43 (0, 0))) := Lib.hid (by rw [← hw2]; exact HEX1.out)
  clear hw2
  have F3 := heap_cell HEXw2.out (j := 3) (u := .int .i64 t) rfl
  have F4 := heap_cell HEXw2.out (j := 4) (u := .int .i64 r) rfl
  have F5 := heap_cell HEXw2.out (j := 5) (u := .int .i64 aim) rfl
  have F7 := cell_keep HBw2.out HC7.out
  have F8 := cell_keep HBw2.out HC8.out
  go_wp2_with (go_at_call 53; refine (mneed_good _ _ HN.out).mono ?_; rintro e w' ⟨rfl, rfl⟩)
  have hlk2 := fun n => (has_below HX.out (below_drewN HBw2.out n)).look HG.out HT.out (wf_of 0 (by decide))
  rw [HD.out] at hlk2
  go_quiet ((go_at_call 54; exact Calls.quiet_of_same ((HC.out _).mono (fun _ _ h => ⟨h.1, h.2.symm⟩))))
  clear F3 F4 F5 F7 F8 hlk2
  generalize hw2 : World.drewN w2 nq = w2b
  have HBw2b : Hid (Below w.heap.size w w2b) := Lib.hid (by rw [← hw2]; exact below_drewN HBw2.out nq)
  have HSZw2b : Hid (w2b.heap.size = w.heap.size + 1) := Lib.hid (by rw [← hw2]; exact HSZw2.out)
  have HEXw2b : Hid (w2b.heap[w.heap.size]? = some (.cells #[.int .i64 3, .int .i64 c, .int .i64 x, .int .i64 t, .int .i64 r, .int .i64 aim, .int .i64 q] 43 (0, 0))) := Lib.hid (by rw [← hw2]; exact HEXw2.out)
  clear hw2
  have D4 := cell_keep HBw2b.out c4
  have DF : w2b.frozen? ⟨b, 4, none⟩ = false := (HBw2b.out.frozen (p := ⟨b, 4, none⟩) lb).trans hf
  go_wp2_with fail
  generalize hw3 : w2b.setCell ⟨b, 4, none⟩ (.bool false) = w3
  have hs3 : w3.heap.size = w.heap.size + 1 := by rw [← hw3, ← HSZw2b.out]; simp
  have lb1 := HSZw2b.out
  have hk3 : ∀ k, k < w.heap.size → k ≠ b → w3.heap[k]? = w.heap[k]? := fun k hk hne => by rw [← hw3]; exact (heap_set _ b 4 _ k hne).trans (HBw2b.out.block k hk)
  have hb3 : w3.heap[b]? = some (.cells (oneC { z with opn := false } mb v) 115 (0, 0)) := by rw [← hw3]; exact heap_put _ b 4 _ _ _ ((HBw2b.out.block b lb).trans HH.out)
  have hB3 : Below B w w3 := by rw [← hw3]; exact (HBw2b.out.mono hB).setCell HBB.out.1 _
  have he3 : w3.heap[w.heap.size]? = some (.cells #[.int .i64 3, .int .i64 c, .int .i64 x, .int .i64 t, .int .i64 r, .int .i64 aim, .int .i64 q] 43 (0, 0)) := by
    rw [← hw3]
    exact (heap_set _ b 4 _ _ (by omega)).trans HEXw2b.out
  refine wp_region_still_tail 7 (by kernel_rfl) (by kernel_rfl) ?_
  simp only [List.take_succ_cons, List.take_zero, List.drop_succ_cons, List.drop_zero]
  change wpStill _ _ (World.drew w3) (fun a' => wpList _ _ _ _ a' (World.drew w3)) _ _
  generalize hw4 : World.drew w3 = w4
  have hh4 : w4.heap = w3.heap := by rw [← hw4]; rfl
  rw [← hh4] at hs3 hk3 hb3 he3
  have hB4 : Below B w w4 := by rw [← hw4]; exact hB3.drew
  have B8 := heap_cell hb3 (j := 8) (u := .map (some mb)) rfl
  have G3 := heap_cell he3 (j := 3) (u := .int .i64 t) rfl
  have G4 := heap_cell he3 (j := 4) (u := .int .i64 r) rfl
  have HS4 := Lib.hid hs3
  have HK4 := Lib.hid hk3
  have HB4 := Lib.hid hb3
  have HE4 := Lib.hid he3
  have HBW4 := Lib.hid hB4
  clear hw3 hB3 hw4 hh4 hs3 hk3 hb3 he3 hB4 D4 DF
  repeat still_step
  try refine wpStill_nil ?_
  have hX4 : HasX w4 mb l := has_at HX.out (HK4.out mb (has_lt HX.out) HBB.out.2.2.1)
  refine wpList_mapUpdate_in _ rfl _ _ _ 112 rfl 40 41 resKeyed Tryd.underlying112 (plainElem Tryd.prog 41) mb l.length (gotD l) rfl hX4 (by unfold maxLen; omega) (.agg #[.int .i64 t, .int .i64 r]) (.int .i64 aim) (resK t r) rfl rfl (keyOf_res HT.out HR.out) (modeD aim) [] (plainMode HI.out) ?_
  intro w5 hown5 hturn5
  have hg5 := hturn5.grown
  have HX5 : Hid (HasX w5 mb (l ++ [⟨t, r, aim, p⟩])) := Lib.hid (by unfold HasX; rw [gotD_snoc, List.length_append]; exact hown5)
  have hk5 : ∀ k, k < w4.heap.size → k ≠ mb → w5.heap[k]? = w4.heap[k]? := fun k hk hne => hg5.block k hk (fun e => hne (Option.some.inj e))
  have hs5 : w4.heap.size ≤ w5.heap.size := hg5.size
  have lmb := has_lt HX.out
  have hs4 := HS4.out
  have hb5 := (hk5 b (by omega) (fun e => HBB.out.2.2.1 e.symm)).trans HB4.out
  have he5 := (hk5 w.heap.size (by omega) (by omega)).trans HE4.out
  have hB5 : Below B w w5 := HBW4.out.grown hg5 (by omega) (fun k hk => by cases hk; exact HBB.out.2.1)
  have HK5 : Hid (∀ k, k < w.heap.size → k ≠ b → k ≠ mb → w5.heap[k]? = w.heap[k]?) := Lib.hid (fun k hk h1 h2 => (hk5 k (by omega) h2).trans (HK4.out k hk h1))
  clear hown5 hturn5 hg5 hk5 hX4 HK4 B8 G3 G4 HX
  go_wp2_with fail
  have hb6 : Below B w w5 := hB5
  have B9 := heap_cell hb5 (j := 9) (u := v) rfl
  have BF := heap_free hb5 (j := 9)
  have G3 := heap_cell he5 (j := 3) (u := .int .i64 t) rfl
  have G4 := heap_cell he5 (j := 4) (u := .int .i64 r) rfl
  have hO6 : w5.ownsRow B 122 4 v l.length (flatG l) := own_at HO.out (fun k hk => HK5.out k (HO.out.lt k hk).2 (fun e => HBB.out.2.2.2.1 (by rw [hk, e])) (fun e => HBB.out.2.2.2.2 (by rw [hk, e])))
  have hvw : v.ownBlock ≠ some w.heap.size := fun e => by have := (HO.out.lt _ e).2; omega
  have HVW := Lib.hid hvw
  have HVB := Lib.hid HBB.out.2.2.2.1
  have HB6 := Lib.hid hb5
  have HBW6 := Lib.hid hB5
  have HO6 := Lib.hid hO6
  have e6 : w.heap.size < w5.heap.size := by omega
  have e6' : b < w5.heap.size := by omega
  have e6m : mb < w5.heap.size := by omega
  have ne6 : ¬ b = w5.heap.size := by omega
  have ne6' : ¬ w.heap.size = w5.heap.size := by omega
  have nbw : ¬ b = w.heap.size := by omega
  have hle6 : w.heap.size ≤ w5.heap.size := by omega
  obtain ⟨i0, hi0, hz0, hz1, hz2⟩ := info_parts got_info
  clear hB5 hb6 hb5 he5 hO6 hs4 hs5 lmb HB4 HE4 HBW4 hvw
  refine wp_region_N (S := (fun w' => (w'.cell? ⟨w.heap.size, 3, none⟩ = some (.int .i64 t) ∧ w'.cell? ⟨w.heap.size, 4, none⟩ = some (.int .i64 r)) ∧ w'.cell? ⟨b, 9, none⟩ = some v)) (fun i => !(i == 14)) (by kernel_rfl) ?_ (fun hHeld => ?_)
  · (try dsimp only)
    first
      | (refine ⟨⟨?_, ?_⟩, ?_⟩ <;> assumption)
      | (refine ⟨⟨cell_keep ?_ G3, cell_keep ?_ G4⟩, cell_keep ?_ B9⟩ <;> (go_grown; done))
  refine wpAnyN_take [12, 13, 14] (i := 0) (v := ?_) rfl (by kernel_rfl) (by kernel_rfl) (by kernel_rfl) (by kernel_rfl) (by kernel_rfl) (fun _ _ _ h => h) (Or.inl ⟨by first | kernel_rfl | rfl, ?_⟩) (by assumption) ?_
  rotate_left
  focus
    intro w hSw
    (try dsimp only at hSw)
    go_simp
    try with_reducible rfl
  (try change wpAnyN _ _ _ _ _ _ _ _ (Act.put _ (some 70) _) _)
  try (unfold Act.put; dsimp only)
  refine wpAnyN_take [2, 3, 4, 11, 12, 13, 14] (i := 1) (v := ?_) rfl (by kernel_rfl) (by kernel_rfl) (by kernel_rfl) (by kernel_rfl) (by kernel_rfl) (fun _ _ _ h => h) (Or.inl ⟨by first | kernel_rfl | rfl, ?_⟩) (by assumption) ?_
  rotate_left
  focus
    intro w hSw
    (try dsimp only at hSw)
    go_simp
    try with_reducible rfl
  (try change wpAnyN _ _ _ _ _ _ _ _ (Act.put _ (some 71) _) _)
  try (unfold Act.put; dsimp only)
  refine wpAnyN_take [3, 4, 11, 12, 13, 14] (i := 2) (v := ?_) rfl (by kernel_rfl) (by kernel_rfl) (by kernel_rfl) (by kernel_rfl) (by kernel_rfl) (fun _ _ _ h => h) (Or.inl ⟨by first | kernel_rfl | rfl, ?_⟩) (by assumption) ?_
  rotate_left
  focus
    intro w hSw
    (try dsimp only at hSw)
    go_simp
    try with_reducible rfl
  (try change wpAnyN _ _ _ _ _ _ _ _ (Act.put _ (some 72) _) _)
  try (unfold Act.put; dsimp only)
  refine wpAnyN_take [4, 11, 12, 13, 14] (i := 3) (v := ?_) rfl (by kernel_rfl) (by kernel_rfl) (by kernel_rfl) (by kernel_rfl) (by kernel_rfl) (fun _ _ _ h => h) (Or.inl ⟨by first | kernel_rfl | rfl, ?_⟩) (by assumption) ?_
  rotate_left
  focus
    intro w hSw
    (try dsimp only at hSw)
    go_simp
    try with_reducible rfl
  (try change wpAnyN _ _ _ _ _ _ _ _ (Act.put _ (some 73) _) _)
  try (unfold Act.put; dsimp only)
  refine wpAnyN_take [11, 12, 13, 14] (i := 4) (v := ?_) rfl (by kernel_rfl) (by kernel_rfl) (by kernel_rfl) (by kernel_rfl) (by kernel_rfl) (fun _ _ _ h => h) (Or.inl ⟨by first | kernel_rfl | rfl, ?_⟩) (by assumption) ?_
  rotate_left
  focus
    intro w hSw
    (try dsimp only at hSw)
    go_simp
    try with_reducible rfl
  (try change wpAnyN _ _ _ _ _ _ _ _ (Act.put _ (some 74) _) _)
  try (unfold Act.put; dsimp only)
  refine wpAnyN_take [6, 9, 10, 11, 12, 13, 14] (i := 5) (v := ?_) rfl (by kernel_rfl) (by kernel_rfl) (by kernel_rfl) (by kernel_rfl) (by kernel_rfl) (fun _ _ _ h => h) (Or.inl ⟨by first | kernel_rfl | rfl, ?_⟩) (by assumption) ?_
  rotate_left
  focus
    intro w hSw
    (try dsimp only at hSw)
    go_simp
    try with_reducible rfl
  (try change wpAnyN _ _ _ _ _ _ _ _ (Act.put _ (some 75) _) _)
  try (unfold Act.put; dsimp only)
  refine wpAnyN_take [9, 10, 11, 12, 13, 14] (i := 6) (v := ?_) rfl (by kernel_rfl) (by kernel_rfl) (by kernel_rfl) (by kernel_rfl) (by kernel_rfl) (fun _ _ _ h => h) (Or.inl ⟨by first | kernel_rfl | rfl, ?_⟩) (by assumption) ?_
  rotate_left
  focus
    intro w hSw
    (try dsimp only at hSw)
    go_simp
    try with_reducible rfl
  (try change wpAnyN _ _ _ _ _ _ _ _ (Act.put _ (some 76) _) _)
  try (unfold Act.put; dsimp only)
  refine wpAnyN_take [9, 10, 11, 12, 13, 14] (i := 7) (v := ?_) rfl (by kernel_rfl) (by kernel_rfl) (by kernel_rfl) (by kernel_rfl) (by kernel_rfl) (fun _ _ _ h => h) (Or.inl ⟨by first | kernel_rfl | rfl, ?_⟩) (by assumption) ?_
  rotate_left
  focus
    intro w hSw
    (try dsimp only at hSw)
    go_simp
    try with_reducible rfl
  (try change wpAnyN _ _ _ _ _ _ _ _ (Act.put _ (some 77) _) _)
  try (unfold Act.put; dsimp only)
  refine wpAnyN_take [9, 10, 11, 12, 13, 14] (i := 8) (v := ?_) rfl (by kernel_rfl) (by kernel_rfl) (by kernel_rfl) (by kernel_rfl) (by kernel_rfl) (fun _ _ _ h => h) (Or.inl ⟨by first | kernel_rfl | rfl, ?_⟩) (by assumption) ?_
  rotate_left
  focus
    intro w hSw
    (try dsimp only at hSw)
    go_simp
    try with_reducible rfl
  (try change wpAnyN _ _ _ _ _ _ _ _ (Act.put _ (some 78) _) _)
  try (unfold Act.put; dsimp only)
  refine wpAnyN_take [10, 11, 12, 13, 14] (i := 9) (v := ?_) rfl (by kernel_rfl) (by kernel_rfl) (by kernel_rfl) (by kernel_rfl) (by kernel_rfl) (fun _ _ _ h => h) (Or.inl ⟨by first | kernel_rfl | rfl, ?_⟩) (by assumption) ?_
  rotate_left
  focus
    intro w hSw
    (try dsimp only at hSw)
    go_simp
    try with_reducible rfl
  (try change wpAnyN _ _ _ _ _ _ _ _ (Act.put _ (some 79) _) _)
  try (unfold Act.put; dsimp only)
  refine wpAnyN_ready (rs := [10]) (by kernel_rfl) (by simp) ?_
  refine AllReadyN.cons rfl (fun K hK => ?_) ?_
  · go_simp
    refine hK.out _ _ ?_ (fun hHeld => ?_)
    · (try dsimp only)
      first
        | (refine ⟨⟨?_, ?_⟩, ?_⟩ <;> assumption)
        | (refine ⟨⟨cell_keep ?_ G3, cell_keep ?_ G4⟩, cell_keep ?_ B9⟩ <;> (go_grown; done))
    clear hK K
    (try change wpAnyN _ _ _ _ _ _ _ _ (Act.put _ (some 80) _) _)
    try (unfold Act.put; dsimp only)
    refine wpAnyN_ready (rs := [11]) (by kernel_rfl) (by simp) ?_
    refine AllReadyN.cons rfl (fun K hK => ?_) ?_
    · refine step_append_lies _ (by rfl) _ _ _ (by rfl) B 122 i0 _ 4 32 Tryd.underlying113 hi0 hz0 hz1 hz2 rfl (by decide) v l.length (flatG l) (by rfl) (own_below HO6.out (by go_grown)) _ 1 1 [.int .i64 t, .int .i64 r, .int .i64 aim, .int .i64 p] (by rfl) (by rfl) (World.news_of_block (cs := #[.int .i64 t, .int .i64 r, .int .i64 aim, .int .i64 p]) (t := 122) (fr := (0, 0)) (by (repeat (first | rw [heap_drew] | rw [heap_push])); simp)) (by simp [Value.oneCell']) (by decide) (by unfold maxLen; omega) (by omega) (by simp <;> omega) _ rfl ?_
      intro gg cap w7 hown7 hgrow hat hlt7
      have h7 := append_keep hgrow (by go_grown) HB6.out HVB.out
      have y3 := append_cell hgrow (by go_grown) G3 HVW.out
      have y4 := append_cell hgrow (by go_grown) G4 HVW.out
      have k7 := heap_cell h7 (j := 9) (u := v) rfl
      have kf7 := heap_free h7 (j := 9)
      have HK7 : Hid (∀ k, k < w5.heap.size → v.ownBlock ≠ some k → w7.heap[k]? = w5.heap[k]?) := Lib.hid (fun k hk hne => append_other hgrow (by go_grown) hk hne)
      have HBW7 : Hid (Below B w w7) := Lib.hid (append_below hgrow (by go_grown) HBW6.out (by omega) (fun k hk => (HO6.out.lt k hk).1))
      have H7 := Lib.hid h7
      have HO7 := Lib.hid hown7
      clear h7 hgrow hown7
      refine hK.out _ _ ?_ (fun hHeld => ?_)
      · (try dsimp only)
        first
          | (refine ⟨⟨?_, ?_⟩, ?_⟩ <;> assumption)
          | (refine ⟨⟨cell_keep ?_ G3, cell_keep ?_ G4⟩, cell_keep ?_ B9⟩ <;> (go_grown; done))
      clear hK K
      (try change wpAnyN _ _ _ _ _ _ _ _ (Act.put _ (some 81) _) _)
      try (unfold Act.put; dsimp only)
      refine wpAnyN_take [13, 14] (i := 12) (v := ?_) rfl (by kernel_rfl) (by kernel_rfl) (by kernel_rfl) (by kernel_rfl) (by kernel_rfl) (fun _ _ _ h => h) (Or.inl ⟨by first | kernel_rfl | rfl, ?_⟩) (by assumption) ?_
      rotate_left
      focus
        intro w hSw
        (try dsimp only at hSw)
        go_simp
        try with_reducible rfl
      (try change wpAnyN _ _ _ _ _ _ _ _ (Act.put _ (some 82) _) _)
      try (unfold Act.put; dsimp only)
      refine wpAnyN_take [14] (i := 13) (v := ?_) rfl (by kernel_rfl) (by kernel_rfl) (by kernel_rfl) (by kernel_rfl) (by kernel_rfl) (fun _ _ _ h => h) (Or.inl ⟨by first | kernel_rfl | rfl, ?_⟩) (by assumption) ?_
      rotate_left
      focus
        intro w hSw
        (try dsimp only at hSw)
        go_simp
        try with_reducible rfl
      (try change wpAnyN _ _ _ _ _ _ _ _ (Act.put _ (some 83) _) _)
      try (unfold Act.put; dsimp only)
      refine wpAnyN_ready (rs := [14]) (by kernel_rfl) (by simp) ?_
      refine AllReadyN.last rfl rfl (fun K hK => ?_) ?_
      · go_simp
        refine hK.out _ _ ?_
        clear hK K
        try (unfold Act.put; dsimp only)
        refine wpAnyN_done (by kernel_rfl) ?_ _
        go_wp2
        go_ret
        refine ⟨rfl, .slice (some ⟨gg, 0, none⟩) (l.length + 1) cap, ?_, ?_, ?_, ?_, ?_, ?_⟩
        · exact (heap_put w7 b 9 _ _ _ H7.out).trans rfl
        · exact has_at HX5.out ((heap_set w7 b 9 _ mb HBB.out.2.2.1).trans (HK7.out mb e6m HBB.out.2.2.2.2))
        · rw [flatG_snoc, List.length_append]
          refine own_at HO7.out fun k hk => heap_set w7 b 9 _ k ?_
          intro e
          simp [Value.ownBlock] at hk
          rcases hat with h | h
          · exact HVB.out (by rw [h, ← e, hk])
          · first | omega | (simp at h; omega)
        · intro k hk
          simp [Value.ownBlock] at hk
          subst hk
          rcases hat with h | h
          · exact .inl h
          · right; first | omega | (simp at h; omega)
        · intro k hk h1 h2 h3
          exact (heap_set w7 b 9 _ k h1).trans ((HK7.out k (by omega) h3).trans (HK5.out k hk h1 h2))
        · exact HBW7.out.setCell HBB.out.1 _
      exact AllReadyN.nil
    exact AllReadyN.nil
  exact AllReadyN.nil
end Go.Proofs.YtggkohkngockoaaDoor

/-
  The model: what is granted, over, clashes, committed. No conditions beyond those that each theorem states.
-/
import Derived.Test.YtjpjlfjaapfnkaaGreatDoorDMG
import Derived.LoopTactic
import Derived.StillTailTactics
set_option linter.unusedVariables false
set_option linter.unusedSimpArgs false
namespace Go.Proofs.YtjpjlfjaapfnkaaGreatDoor.C20
open Go.ChangeShapes Go.WideShapes Go.ChangeAt Go.RowKit Go.Maps
theorem got_info : (Tryz.prog.info? 238).map (fun i => (i.zero, i.size, i.bytes)) = some (some (.agg #[.int .i64 0, .int .i64 0, .int .i64 0, .int .i64 0]), 4, 32) := by kernel_rfl
theorem has_below {w w' : World} {mb : Nat} {l : List Got} (h : HasX w mb l) (hb : Below w.heap.size w w') : HasX w' mb l := has_at h (hb.block mb (has_lt h))
set_option maxRecDepth 100000 in
set_option maxHeartbeats 4000000 in
theorem granted_no (b mb : Nat) (l : List Got) (y c x t r m q p : Int) (w : World) (c7 : w.cell? ⟨b, 7, none⟩ = some (.int .i64 y)) (c8 : w.cell? ⟨b, 8, none⟩ = some (.map (some mb))) (hX : HasX w mb l) (hG : GotOk l) (hy : 0 ≤ y ∧ y ≤ 4) (hT : (Lit.int .i64 t).wf = true) (hR : (Lit.int .i64 r).wf = true)
 (haim : ¬ leastI (modeOf t r l) y = m) :
 Calls Tryz.prog 144 #[.pointer (some ⟨b, 0, none⟩), .agg #[.int .i64 3, .int .i64 c, .int .i64 x, .int .i64 t, .int .i64 r, .int .i64 m, .int .i64 q], .int .i64 p] w fun e w' => e = .returned (.iface 70 (.int .i64 11)) ∧ Below w.heap.size w w' := by
 obtain ⟨w1, hw1⟩ : ∃ W, w.alloc (.cells #[.int .i64 3, .int .i64 c, .int .i64 x, .int .i64 t, .int .i64 r, .int .i64 m, .int .i64 q] 44) = W := ⟨_, rfl⟩
 have hb1 : Below w.heap.size w w1 := by rw [← hw1]; exact (Below.refl _ _).alloc (Nat.le_refl _) _
 have hs1 : w1.heap.size = w.heap.size + 1 := by rw [← hw1]; simp
 have E3 : w1.cell? ⟨w.heap.size, 3, none⟩ = some (.int .i64 t) := by rw [← hw1]; simp
 have E4 : w1.cell? ⟨w.heap.size, 4, none⟩ = some (.int .i64 r) := by rw [← hw1]; simp
 have E5 : w1.cell? ⟨w.heap.size, 5, none⟩ = some (.int .i64 m) := by rw [← hw1]; simp
 have C7 := cell_keep hb1 c7
 have C8 := cell_keep hb1 c8
 have hlk := fun n => (has_below hX (below_drewN hb1 n)).look hG hT hR
 have HW1 := Lib.hid hw1
 have HB1 := Lib.hid hb1
 have HS1 := Lib.hid hs1
 clear hw1 hb1 hs1
 have HX := Lib.hid hX
 have HT := Lib.hid hT
 have HR := Lib.hid hR
 have HC7 := Lib.hid c7
 have HC8 := Lib.hid c8
 have HG := Lib.hid hG
 have hin := modeOf_in hG t r
 obtain ⟨a, ha⟩ : ∃ a, modeOf t r l = a := ⟨_, rfl⟩
 rw [ha] at hlk hin haim
 have HA := Lib.hid ha
 obtain ⟨aim, hai⟩ : ∃ aim, leastI a y = aim := ⟨_, rfl⟩
 have HL := Lib.hid (fun W => mleast_ok a y W hin hy)
 have hli := leastI_in a y
 rw [hai] at HL haim hli
 have HI := Lib.hid hli
 clear hli
 clear ha hX hT hR c7 c8 hG hai
 go_enter Tryz.func144, Tryz.ntmps144
 go_wp2_with fail
 rw [HW1.out]
 go_quiet ((go_at_call 149; exact Calls.quiet_of_same ((HL.out _).mono (fun _ _ h => ⟨h.1, h.2.symm⟩))))
 go_wp2
 go_ret
 exact ⟨rfl, below_drewN HB1.out _⟩
theorem mneed_bad (m : Int) (w : World) (h : ¬ needE m = 0) :
 Calls Tryz.prog 150 #[.int .i64 m] w fun e w' => e = .returned (.tuple #[.int .i64 (needI m), .iface 70 (.int .i64 (needE m))]) ∧ w = w' := by
 have := mneed_any m w
 unfold errV at this
 rwa [if_neg h] at this
theorem mneed_good (m : Int) (w : World) (h : needE m = 0) :
 Calls Tryz.prog 150 #[.int .i64 m] w fun e w' => e = .returned (.tuple #[.int .i64 (needI m), .nilIface]) ∧ w = w' := by
 have := mneed_any m w
 unfold errV at this
 rwa [if_pos h] at this
set_option maxRecDepth 100000 in
set_option maxHeartbeats 4000000 in
theorem granted_no2 (b mb : Nat) (l : List Got) (y c x t r m q p : Int) (w : World) (c7 : w.cell? ⟨b, 7, none⟩ = some (.int .i64 y)) (c8 : w.cell? ⟨b, 8, none⟩ = some (.map (some mb))) (hX : HasX w mb l) (hG : GotOk l) (hy : 0 ≤ y ∧ y ≤ 4) (hT : (Lit.int .i64 t).wf = true) (hR : (Lit.int .i64 r).wf = true)
 (haim : leastI (modeOf t r l) y = m) (hr : 0 < r) (hn : ¬ needE y = 0) :
 Calls Tryz.prog 144 #[.pointer (some ⟨b, 0, none⟩), .agg #[.int .i64 3, .int .i64 c, .int .i64 x, .int .i64 t, .int .i64 r, .int .i64 m, .int .i64 q], .int .i64 p] w fun e w' => e = .returned (.iface 70 (.int .i64 11)) ∧ Below w.heap.size w w' := by
 have HN := Lib.hid hn
 clear hn
 obtain ⟨d, hd⟩ : ∃ d, modeOf t 0 l = d := ⟨_, rfl⟩
 have HD := Lib.hid hd
 clear hd
 obtain ⟨w1, hw1⟩ : ∃ W, w.alloc (.cells #[.int .i64 3, .int .i64 c, .int .i64 x, .int .i64 t, .int .i64 r, .int .i64 m, .int .i64 q] 44) = W := ⟨_, rfl⟩
 have hb1 : Below w.heap.size w w1 := by rw [← hw1]; exact (Below.refl _ _).alloc (Nat.le_refl _) _
 have hs1 : w1.heap.size = w.heap.size + 1 := by rw [← hw1]; simp
 have E3 : w1.cell? ⟨w.heap.size, 3, none⟩ = some (.int .i64 t) := by rw [← hw1]; simp
 have E4 : w1.cell? ⟨w.heap.size, 4, none⟩ = some (.int .i64 r) := by rw [← hw1]; simp
 have E5 : w1.cell? ⟨w.heap.size, 5, none⟩ = some (.int .i64 m) := by rw [← hw1]; simp
 have C7 := cell_keep hb1 c7
 have C8 := cell_keep hb1 c8
 have hlk := fun n => (has_below hX (below_drewN hb1 n)).look hG hT hR
 have HW1 := Lib.hid hw1
 have HB1 := Lib.hid hb1
 have HS1 := Lib.hid hs1
 clear hw1 hb1 hs1
 have HX := Lib.hid hX
 have HT := Lib.hid hT
 have HR := Lib.hid hR
 have HC7 := Lib.hid c7
 have HC8 := Lib.hid c8
 have HG := Lib.hid hG
 have hin := modeOf_in hG t r
 obtain ⟨a, ha⟩ : ∃ a, modeOf t r l = a := ⟨_, rfl⟩
 rw [ha] at hlk hin haim
 have HA := Lib.hid ha
 obtain ⟨aim, hai⟩ : ∃ aim, leastI a y = aim := ⟨_, rfl⟩
 have HL := Lib.hid (fun W => mleast_ok a y W hin hy)
 have hli := leastI_in a y
 rw [hai] at HL haim hli
 have HI := Lib.hid hli
 clear hli
 clear ha hX hT hR c7 c8 hG hai
 go_enter Tryz.func144, Tryz.ntmps144
 go_wp2_with fail
 rw [HW1.out]
 go_quiet ((go_at_call 149; exact Calls.quiet_of_same ((HL.out _).mono (fun _ _ h => ⟨h.1, h.2.symm⟩))))
 subst haim
 go_wp2_with (go_at_call 150; refine (mneed_bad _ _ HN.out).mono ?_; rintro e w' ⟨rfl, rfl⟩)
 go_wp2_with fail
 generalize hw2 : World.drewN w1 _ = w2
 have hb2 : Below w.heap.size w w2 := by rw [← hw2]; exact below_drewN HB1.out _
 have F3 : w2.cell? ⟨w.heap.size, 3, none⟩ = some (.int .i64 t) := by rw [← hw2]; exact E3
 have F4 : w2.cell? ⟨w.heap.size, 4, none⟩ = some (.int .i64 r) := by rw [← hw2]; exact E4
 have F7 := cell_keep hb2 HC7.out
 have F8 := cell_keep hb2 HC8.out
 have hlk2 := fun n => (has_below HX.out (below_drewN hb2 n)).look HG.out HT.out (wf_of 0 (by decide))
 rw [HD.out] at hlk2
 have HB2 := Lib.hid hb2
 clear hw2 hb2 C7 C8 E3 E4 E5 hlk
 go_quiet (fail)
 go_wp2
 go_ret
 exact ⟨rfl, below_drewN HB2.out _⟩
set_option maxRecDepth 100000 in
set_option maxHeartbeats 4000000 in
theorem granted_no3 (b mb : Nat) (l : List Got) (y c x t r m q p : Int) (w : World) (c7 : w.cell? ⟨b, 7, none⟩ = some (.int .i64 y)) (c8 : w.cell? ⟨b, 8, none⟩ = some (.map (some mb))) (hX : HasX w mb l) (hG : GotOk l) (hy : 0 ≤ y ∧ y ≤ 4) (hT : (Lit.int .i64 t).wf = true) (hR : (Lit.int .i64 r).wf = true)
 (haim : leastI (modeOf t r l) y = m) (hr : 0 < r) (hn : needE y = 0) (hc : covB (modeOf t 0 l) (needI y) = false) :
 Calls Tryz.prog 144 #[.pointer (some ⟨b, 0, none⟩), .agg #[.int .i64 3, .int .i64 c, .int .i64 x, .int .i64 t, .int .i64 r, .int .i64 m, .int .i64 q], .int .i64 p] w fun e w' => e = .returned (.iface 70 (.int .i64 11)) ∧ Below w.heap.size w w' := by
 have HN := Lib.hid hn
 clear hn
 obtain ⟨d, hd⟩ : ∃ d, modeOf t 0 l = d := ⟨_, rfl⟩
 rw [hd] at hc
 have HD := Lib.hid hd
 have HC := Lib.hid (fun W => cov_any d (needI y) W)
 rw [hc] at HC
 clear hd hc
 obtain ⟨w1, hw1⟩ : ∃ W, w.alloc (.cells #[.int .i64 3, .int .i64 c, .int .i64 x, .int .i64 t, .int .i64 r, .int .i64 m, .int .i64 q] 44) = W := ⟨_, rfl⟩
 have hb1 : Below w.heap.size w w1 := by rw [← hw1]; exact (Below.refl _ _).alloc (Nat.le_refl _) _
 have hs1 : w1.heap.size = w.heap.size + 1 := by rw [← hw1]; simp
 have E3 : w1.cell? ⟨w.heap.size, 3, none⟩ = some (.int .i64 t) := by rw [← hw1]; simp
 have E4 : w1.cell? ⟨w.heap.size, 4, none⟩ = some (.int .i64 r) := by rw [← hw1]; simp
 have E5 : w1.cell? ⟨w.heap.size, 5, none⟩ = some (.int .i64 m) := by rw [← hw1]; simp
 have C7 := cell_keep hb1 c7
 have C8 := cell_keep hb1 c8
 have hlk := fun n => (has_below hX (below_drewN hb1 n)).look hG hT hR
 have HW1 := Lib.hid hw1
 have HB1 := Lib.hid hb1
 have HS1 := Lib.hid hs1
 clear hw1 hb1 hs1
 have HX := Lib.hid hX
 have HT := Lib.hid hT
 have HR := Lib.hid hR
 have HC7 := Lib.hid c7
 have HC8 := Lib.hid c8
 have HG := Lib.hid hG
 have hin := modeOf_in hG t r
 obtain ⟨a, ha⟩ : ∃ a, modeOf t r l = a := ⟨_, rfl⟩
 rw [ha] at hlk hin haim
 have HA := Lib.hid ha
 obtain ⟨aim, hai⟩ : ∃ aim, leastI a y = aim := ⟨_, rfl⟩
 have HL := Lib.hid (fun W => mleast_ok a y W hin hy)
 have hli := leastI_in a y
 rw [hai] at HL haim hli
 have HI := Lib.hid hli
 clear hli
 clear ha hX hT hR c7 c8 hG hai
 go_enter Tryz.func144, Tryz.ntmps144
 go_wp2_with fail
 rw [HW1.out]
 go_quiet ((go_at_call 149; exact Calls.quiet_of_same ((HL.out _).mono (fun _ _ h => ⟨h.1, h.2.symm⟩))))
 subst haim
 go_wp2_with (go_at_call 150; refine (mneed_good _ _ HN.out).mono ?_; rintro e w' ⟨rfl, rfl⟩)
 go_wp2_with fail
 generalize hw2 : World.drewN w1 _ = w2
 have hb2 : Below w.heap.size w w2 := by rw [← hw2]; exact below_drewN HB1.out _
 have F3 : w2.cell? ⟨w.heap.size, 3, none⟩ = some (.int .i64 t) := by rw [← hw2]; exact E3
 have F4 : w2.cell? ⟨w.heap.size, 4, none⟩ = some (.int .i64 r) := by rw [← hw2]; exact E4
 have F7 := cell_keep hb2 HC7.out
 have F8 := cell_keep hb2 HC8.out
 have hlk2 := fun n => (has_below HX.out (below_drewN hb2 n)).look HG.out HT.out (wf_of 0 (by decide))
 rw [HD.out] at hlk2
 have HB2 := Lib.hid hb2
 clear hw2 hb2 C7 C8 E3 E4 E5 hlk
 go_quiet ((go_at_call 151; exact Calls.quiet_of_same ((HC.out _).mono (fun _ _ h => ⟨h.1, h.2.symm⟩))))
 go_wp2
 go_ret
 exact ⟨rfl, below_drewN HB2.out _⟩
theorem plainMode {a : Int} (h : 0 ≤ a ∧ a ≤ 4) : plainElem (H := Unit) Tryz.prog 31 (.int .i64 a) = some (modeD a, []) := plainElem_int Tryz.underlying31 (wf_of _ (by omega))
def GrantOf (w w' : World) (B b mb : Nat) (v : Value) (y : Tx) : Prop :=
 ∃ v', w'.heap[b]? = some (.cells (oneC y mb v') 223 (0, 0)) ∧ HasX w' mb y.got ∧ w'.ownsRow B 238 4 v' y.got.length (flatG y.got) ∧ (∀ k, v'.ownBlock = some k → v.ownBlock = some k ∨ w.heap.size ≤ k) ∧ (∀ k, k < w.heap.size → k ≠ b → k ≠ mb → v.ownBlock ≠ some k → w'.heap[k]? = w.heap[k]?) ∧ Below B w w'
set_option maxRecDepth 100000 in
set_option maxHeartbeats 4000000 in
theorem granted_ok1 (B b mb : Nat) (v : Value) (z : Tx) (c x t r m q p : Int) (w : World) (hb : w.heap[b]? = some (.cells (oneC z mb v) 223 (0, 0))) (hX : HasX w mb z.got) (hO : w.ownsRow B 238 4 v z.got.length (flatG z.got)) (hB : B ≤ w.heap.size) (hbb : B ≤ b ∧ B ≤ mb ∧ mb ≠ b ∧ v.ownBlock ≠ some b ∧ v.ownBlock ≠ some mb) (hG : GotOk z.got) (hy : 0 ≤ z.mode ∧ z.mode ≤ 4) (hT : (Lit.int .i64 t).wf = true) (hR : (Lit.int .i64 r).wf = true) (hn : z.got.length ≤ 1000)
 (haim : leastI (modeOf t r z.got) z.mode = m) (hr : ¬ 0 < r) :
 Calls Tryz.prog 144 #[.pointer (some ⟨b, 0, none⟩), .agg #[.int .i64 3, .int .i64 c, .int .i64 x, .int .i64 t, .int .i64 r, .int .i64 m, .int .i64 q], .int .i64 p] w fun e w' => e = .returned .nilIface ∧ GrantOf w w' B b mb v { z with opn := false, got := z.got ++ [⟨t, r, m, p⟩] } := by
 have c4 := heap_cell hb (j := 4) (u := .bool z.opn) rfl
 have c7 := heap_cell hb (j := 7) (u := .int .i64 z.mode) rfl
 have c8 := heap_cell hb (j := 8) (u := .map (some mb)) rfl
 have hf := heap_free hb (j := 4)
 have lb := lt_of_block hb
 obtain ⟨y, hyy⟩ : ∃ y, z.mode = y := ⟨_, rfl⟩
 obtain ⟨l, hll⟩ : ∃ l, z.got = l := ⟨_, rfl⟩
 have HH := Lib.hid hb
 have HO := Lib.hid hO
 have HBB := Lib.hid hbb
 rw [hyy] at c7 hy haim
 rw [hll] at hX hG hn haim HO  ⊢
 have HLL := Lib.hid hll
 have HYY := Lib.hid hyy
 clear hb hO hbb hll hyy
 obtain ⟨w1, hw1⟩ : ∃ W, w.alloc (.cells #[.int .i64 3, .int .i64 c, .int .i64 x, .int .i64 t, .int .i64 r, .int .i64 m, .int .i64 q] 44) = W := ⟨_, rfl⟩
 have hb1 : Below w.heap.size w w1 := by rw [← hw1]; exact (Below.refl _ _).alloc (Nat.le_refl _) _
 have hs1 : w1.heap.size = w.heap.size + 1 := by rw [← hw1]; simp
 have E3 : w1.cell? ⟨w.heap.size, 3, none⟩ = some (.int .i64 t) := by rw [← hw1]; simp
 have E4 : w1.cell? ⟨w.heap.size, 4, none⟩ = some (.int .i64 r) := by rw [← hw1]; simp
 have E5 : w1.cell? ⟨w.heap.size, 5, none⟩ = some (.int .i64 m) := by rw [← hw1]; simp
 have C7 := cell_keep hb1 c7
 have C8 := cell_keep hb1 c8
 have hlk := fun n => (has_below hX (below_drewN hb1 n)).look hG hT hR
 have HW1 := Lib.hid hw1
 have HB1 := Lib.hid hb1
 have HS1 := Lib.hid hs1
 clear hw1 hb1 hs1
 have HX := Lib.hid hX
 have HT := Lib.hid hT
 have HR := Lib.hid hR
 have HC7 := Lib.hid c7
 have HC8 := Lib.hid c8
 have HG := Lib.hid hG
 have hin := modeOf_in hG t r
 obtain ⟨a, ha⟩ : ∃ a, modeOf t r l = a := ⟨_, rfl⟩
 rw [ha] at hlk hin haim
 have HA := Lib.hid ha
 obtain ⟨aim, hai⟩ : ∃ aim, leastI a y = aim := ⟨_, rfl⟩
 have HL := Lib.hid (fun W => mleast_ok a y W hin hy)
 have hli := leastI_in a y
 rw [hai] at HL haim hli
 have HI := Lib.hid hli
 clear hli
 clear ha hX hT hR c7 c8 hG hai
 go_enter Tryz.func144, Tryz.ntmps144
 go_wp2_with fail
 rw [HW1.out]
 go_quiet ((go_at_call 149; exact Calls.quiet_of_same ((HL.out _).mono (fun _ _ h => ⟨h.1, h.2.symm⟩))))
 subst haim
 have HEX1 : Hid (w1.heap[w.heap.size]? = some (.cells #[.int .i64 3, .int .i64 c, .int .i64 x, .int .i64 t, .int .i64 r, .int .i64 aim, .int .i64 q] 44 (0, 0))) := Lib.hid (by rw [← HW1.out, heap_push, if_pos rfl])
 clear C7 C8 E3 E4 E5 hlk
 generalize hw2 : World.drewN w1 nq = w2
 have HBw2 : Hid (Below w.heap.size w w2) := Lib.hid (by rw [← hw2]; exact below_drewN HB1.out nq)
 have HSZw2 : Hid (w2.heap.size = w.heap.size + 1) := Lib.hid (by rw [← hw2]; exact HS1.out)
 have HEXw2 : Hid (w2.heap[w.heap.size]? = some (.cells #[.int .i64 3, .int .i64 c, .int .i64 x, .int .i64 t, .int .i64 r, .int .i64 aim, .int .i64 q] 44 (0, 0))) := Lib.hid (by rw [← hw2]; exact HEX1.out)
 clear hw2
 have F4 := heap_cell HEXw2.out (j := 4) (u := .int .i64 r) rfl
 have F5 := heap_cell HEXw2.out (j := 5) (u := .int .i64 aim) rfl
 have D4 := cell_keep HBw2.out c4
 have DF : w2.frozen? ⟨b, 4, none⟩ = false := (HBw2.out.frozen (p := ⟨b, 4, none⟩) lb).trans hf
 go_wp2_with fail
 generalize hw3 : w2.setCell ⟨b, 4, none⟩ (.bool false) = w3
 have hs3 : w3.heap.size = w.heap.size + 1 := by rw [← hw3, ← HSZw2.out]; simp
 have lb1 := HSZw2.out
 have hk3 : ∀ k, k < w.heap.size → k ≠ b → w3.heap[k]? = w.heap[k]? := fun k hk hne => by rw [← hw3]; exact (heap_set _ b 4 _ k hne).trans (HBw2.out.block k hk)
 have hb3 : w3.heap[b]? = some (.cells (oneC { z with opn := false } mb v) 223 (0, 0)) := by rw [← hw3]; exact heap_put _ b 4 _ _ _ ((HBw2.out.block b lb).trans HH.out)
 have hB3 : Below B w w3 := by rw [← hw3]; exact (HBw2.out.mono hB).setCell HBB.out.1 _
 have he3 : w3.heap[w.heap.size]? = some (.cells #[.int .i64 3, .int .i64 c, .int .i64 x, .int .i64 t, .int .i64 r, .int .i64 aim, .int .i64 q] 44 (0, 0)) := by
  rw [← hw3]
  exact (heap_set _ b 4 _ _ (by omega)).trans HEXw2.out
 refine wp_region_still_tail 7 (by kernel_rfl) (by kernel_rfl) ?_
 simp only [List.take_succ_cons, List.take_zero, List.drop_succ_cons, List.drop_zero]
 change wpStill _ _ (World.drew w3) (fun a' => wpList _ _ _ _ a' (World.drew w3)) _ _
 generalize hw4 : World.drew w3 = w4
 have hh4 : w4.heap = w3.heap := by rw [← hw4]; rfl
 rw [← hh4] at hs3 hk3 hb3 he3
 have hB4 : Below B w w4 := by rw [← hw4]; exact hB3.drew
 have B8 := heap_cell hb3 (j := 8) (u := .map (some mb)) rfl
 have G3 := heap_cell he3 (j := 3) (u := .int .i64 t) rfl
 have G4 := heap_cell he3 (j := 4) (u := .int .i64 r) rfl
 have HS4 := Lib.hid hs3
 have HK4 := Lib.hid hk3
 have HB4 := Lib.hid hb3
 have HE4 := Lib.hid he3
 have HBW4 := Lib.hid hB4
 clear hw3 hB3 hw4 hh4 hs3 hk3 hb3 he3 hB4 D4 DF
 repeat still_step
 try refine wpStill_nil ?_
 have hX4 : HasX w4 mb l := has_at HX.out (HK4.out mb (has_lt HX.out) HBB.out.2.2.1)
 refine wpList_mapUpdate_in _ rfl _ _ _ 220 rfl 23 31 resKeyed Tryz.underlying220 (plainElem Tryz.prog 31) mb l.length (gotD l) rfl hX4 (by unfold maxLen; omega) (.agg #[.int .i64 t, .int .i64 r]) (.int .i64 aim) (resK t r) rfl rfl (keyOf_res HT.out HR.out) (modeD aim) [] (plainMode HI.out) ?_
 intro w5 hown5 hturn5
 have hg5 := hturn5.grown
 have HX5 : Hid (HasX w5 mb (l ++ [⟨t, r, aim, p⟩])) := Lib.hid (by unfold HasX; rw [gotD_snoc, List.length_append]; exact hown5)
 have hk5 : ∀ k, k < w4.heap.size → k ≠ mb → w5.heap[k]? = w4.heap[k]? := fun k hk hne => hg5.block k hk (fun e => hne (Option.some.inj e))
 have hs5 : w4.heap.size ≤ w5.heap.size := hg5.size
 have lmb := has_lt HX.out
 have hs4 := HS4.out
 have hb5 := (hk5 b (by omega) (fun e => HBB.out.2.2.1 e.symm)).trans HB4.out
 have he5 := (hk5 w.heap.size (by omega) (by omega)).trans HE4.out
 have hB5 : Below B w w5 := HBW4.out.grown hg5 (by omega) (fun k hk => by cases hk; exact HBB.out.2.1)
 have HK5 : Hid (∀ k, k < w.heap.size → k ≠ b → k ≠ mb → w5.heap[k]? = w.heap[k]?) := Lib.hid (fun k hk h1 h2 => (hk5 k (by omega) h2).trans (HK4.out k hk h1))
 clear hown5 hturn5 hg5 hk5 hX4 HK4 B8 G3 G4 HX
 go_wp2_with fail
 have hb6 : Below B w w5 := hB5
 have B9 := heap_cell hb5 (j := 9) (u := v) rfl
 have BF := heap_free hb5 (j := 9)
 have G3 := heap_cell he5 (j := 3) (u := .int .i64 t) rfl
 have G4 := heap_cell he5 (j := 4) (u := .int .i64 r) rfl
 have hO6 : w5.ownsRow B 238 4 v l.length (flatG l) := own_at HO.out (fun k hk => HK5.out k (HO.out.lt k hk).2 (fun e => HBB.out.2.2.2.1 (by rw [hk, e])) (fun e => HBB.out.2.2.2.2 (by rw [hk, e])))
 have hvw : v.ownBlock ≠ some w.heap.size := fun e => by have := (HO.out.lt _ e).2; omega
 have HVW := Lib.hid hvw
 have HVB := Lib.hid HBB.out.2.2.2.1
 have HB6 := Lib.hid hb5
 have HBW6 := Lib.hid hB5
 have HO6 := Lib.hid hO6
 have e6 : w.heap.size < w5.heap.size := by omega
 have e6' : b < w5.heap.size := by omega
 have e6m : mb < w5.heap.size := by omega
 have ne6 : ¬ b = w5.heap.size := by omega
 have ne6' : ¬ w.heap.size = w5.heap.size := by omega
 have nbw : ¬ b = w.heap.size := by omega
 have hle6 : w.heap.size ≤ w5.heap.size := by omega
 obtain ⟨i0, hi0, hz0, hz1, hz2⟩ := info_parts got_info
 clear hB5 hb6 hb5 he5 hO6 hs4 hs5 lmb HB4 HE4 HBW4 hvw
 refine wp_region_N (S := (fun w' => (w'.cell? ⟨w.heap.size, 3, none⟩ = some (.int .i64 t) ∧ w'.cell? ⟨w.heap.size, 4, none⟩ = some (.int .i64 r)) ∧ w'.cell? ⟨b, 9, none⟩ = some v)) (fun i => !(i == 14)) (by kernel_rfl) ?_ (fun hHeld => ?_)
 ·(try dsimp only)
  first
   | (refine ⟨⟨?_, ?_⟩, ?_⟩ <;> assumption)
   | (refine ⟨⟨cell_keep ?_ G3, cell_keep ?_ G4⟩, cell_keep ?_ B9⟩ <;> (go_grown; done))
 refine wpAnyN_take [12, 13, 14] (i := 0) (v := ?_) rfl (by kernel_rfl) (by kernel_rfl) (by kernel_rfl) (by kernel_rfl) (by kernel_rfl) (fun _ _ _ h => h) (Or.inl ⟨by first | kernel_rfl | rfl, ?_⟩) (by assumption) ?_
 rotate_left
 focus
  intro w hSw
  (try dsimp only at hSw)
  go_simp
  try with_reducible rfl
 (try change wpAnyN _ _ _ _ _ _ _ _ (Act.put _ (some 70) _) _)
 try (unfold Act.put; dsimp only)
 refine wpAnyN_take [2, 3, 4, 11, 12, 13, 14] (i := 1) (v := ?_) rfl (by kernel_rfl) (by kernel_rfl) (by kernel_rfl) (by kernel_rfl) (by kernel_rfl) (fun _ _ _ h => h) (Or.inl ⟨by first | kernel_rfl | rfl, ?_⟩) (by assumption) ?_
 rotate_left
 focus
  intro w hSw
  (try dsimp only at hSw)
  go_simp
  try with_reducible rfl
 (try change wpAnyN _ _ _ _ _ _ _ _ (Act.put _ (some 71) _) _)
 try (unfold Act.put; dsimp only)
 refine wpAnyN_take [3, 4, 11, 12, 13, 14] (i := 2) (v := ?_) rfl (by kernel_rfl) (by kernel_rfl) (by kernel_rfl) (by kernel_rfl) (by kernel_rfl) (fun _ _ _ h => h) (Or.inl ⟨by first | kernel_rfl | rfl, ?_⟩) (by assumption) ?_
 rotate_left
 focus
  intro w hSw
  (try dsimp only at hSw)
  go_simp
  try with_reducible rfl
 (try change wpAnyN _ _ _ _ _ _ _ _ (Act.put _ (some 72) _) _)
 try (unfold Act.put; dsimp only)
 refine wpAnyN_take [4, 11, 12, 13, 14] (i := 3) (v := ?_) rfl (by kernel_rfl) (by kernel_rfl) (by kernel_rfl) (by kernel_rfl) (by kernel_rfl) (fun _ _ _ h => h) (Or.inl ⟨by first | kernel_rfl | rfl, ?_⟩) (by assumption) ?_
 rotate_left
 focus
  intro w hSw
  (try dsimp only at hSw)
  go_simp
  try with_reducible rfl
 (try change wpAnyN _ _ _ _ _ _ _ _ (Act.put _ (some 73) _) _)
 try (unfold Act.put; dsimp only)
 refine wpAnyN_take [11, 12, 13, 14] (i := 4) (v := ?_) rfl (by kernel_rfl) (by kernel_rfl) (by kernel_rfl) (by kernel_rfl) (by kernel_rfl) (fun _ _ _ h => h) (Or.inl ⟨by first | kernel_rfl | rfl, ?_⟩) (by assumption) ?_
 rotate_left
 focus
  intro w hSw
  (try dsimp only at hSw)
  go_simp
  try with_reducible rfl
 (try change wpAnyN _ _ _ _ _ _ _ _ (Act.put _ (some 74) _) _)
 try (unfold Act.put; dsimp only)
 refine wpAnyN_take [6, 9, 10, 11, 12, 13, 14] (i := 5) (v := ?_) rfl (by kernel_rfl) (by kernel_rfl) (by kernel_rfl) (by kernel_rfl) (by kernel_rfl) (fun _ _ _ h => h) (Or.inl ⟨by first | kernel_rfl | rfl, ?_⟩) (by assumption) ?_
 rotate_left
 focus
  intro w hSw
  (try dsimp only at hSw)
  go_simp
  try with_reducible rfl
 (try change wpAnyN _ _ _ _ _ _ _ _ (Act.put _ (some 75) _) _)
 try (unfold Act.put; dsimp only)
 refine wpAnyN_take [9, 10, 11, 12, 13, 14] (i := 6) (v := ?_) rfl (by kernel_rfl) (by kernel_rfl) (by kernel_rfl) (by kernel_rfl) (by kernel_rfl) (fun _ _ _ h => h) (Or.inl ⟨by first | kernel_rfl | rfl, ?_⟩) (by assumption) ?_
 rotate_left
 focus
  intro w hSw
  (try dsimp only at hSw)
  go_simp
  try with_reducible rfl
 (try change wpAnyN _ _ _ _ _ _ _ _ (Act.put _ (some 76) _) _)
 try (unfold Act.put; dsimp only)
 refine wpAnyN_take [9, 10, 11, 12, 13, 14] (i := 7) (v := ?_) rfl (by kernel_rfl) (by kernel_rfl) (by kernel_rfl) (by kernel_rfl) (by kernel_rfl) (fun _ _ _ h => h) (Or.inl ⟨by first | kernel_rfl | rfl, ?_⟩) (by assumption) ?_
 rotate_left
 focus
  intro w hSw
  (try dsimp only at hSw)
  go_simp
  try with_reducible rfl
 (try change wpAnyN _ _ _ _ _ _ _ _ (Act.put _ (some 77) _) _)
 try (unfold Act.put; dsimp only)
 refine wpAnyN_take [9, 10, 11, 12, 13, 14] (i := 8) (v := ?_) rfl (by kernel_rfl) (by kernel_rfl) (by kernel_rfl) (by kernel_rfl) (by kernel_rfl) (fun _ _ _ h => h) (Or.inl ⟨by first | kernel_rfl | rfl, ?_⟩) (by assumption) ?_
 rotate_left
 focus
  intro w hSw
  (try dsimp only at hSw)
  go_simp
  try with_reducible rfl
 (try change wpAnyN _ _ _ _ _ _ _ _ (Act.put _ (some 78) _) _)
 try (unfold Act.put; dsimp only)
 refine wpAnyN_take [10, 11, 12, 13, 14] (i := 9) (v := ?_) rfl (by kernel_rfl) (by kernel_rfl) (by kernel_rfl) (by kernel_rfl) (by kernel_rfl) (fun _ _ _ h => h) (Or.inl ⟨by first | kernel_rfl | rfl, ?_⟩) (by assumption) ?_
 rotate_left
 focus
  intro w hSw
  (try dsimp only at hSw)
  go_simp
  try with_reducible rfl
 (try change wpAnyN _ _ _ _ _ _ _ _ (Act.put _ (some 79) _) _)
 try (unfold Act.put; dsimp only)
 refine wpAnyN_ready (rs := [10]) (by kernel_rfl) (by simp) ?_
 refine AllReadyN.cons rfl (fun K hK => ?_) ?_
 ·go_simp
  refine hK.out _ _ ?_ (fun hHeld => ?_)
  ·(try dsimp only)
   first
    | (refine ⟨⟨?_, ?_⟩, ?_⟩ <;> assumption)
    | (refine ⟨⟨cell_keep ?_ G3, cell_keep ?_ G4⟩, cell_keep ?_ B9⟩ <;> (go_grown; done))
  clear hK K
  (try change wpAnyN _ _ _ _ _ _ _ _ (Act.put _ (some 80) _) _)
  try (unfold Act.put; dsimp only)
  refine wpAnyN_ready (rs := [11]) (by kernel_rfl) (by simp) ?_
  refine AllReadyN.cons rfl (fun K hK => ?_) ?_
  ·refine step_append_lies _ (by rfl) _ _ _ (by rfl) B 238 i0 _ 4 32 Tryz.underlying221 hi0 hz0 hz1 hz2 rfl (by decide) v l.length (flatG l) (by rfl) (own_below HO6.out (by go_grown)) _ 1 1 [.int .i64 t, .int .i64 r, .int .i64 aim, .int .i64 p] (by rfl) (by rfl) (World.news_of_block (cs := #[.int .i64 t, .int .i64 r, .int .i64 aim, .int .i64 p]) (t := 238) (fr := (0, 0)) (by (repeat (first | rw [heap_drew] | rw [heap_push])); simp)) (by simp [Value.oneCell']) (by decide) (by unfold maxLen; omega) (by omega) (by simp <;> omega) _ rfl ?_
   intro gg cap w7 hown7 hgrow hat hlt7
   have h7 := append_keep hgrow (by go_grown) HB6.out HVB.out
   have y3 := append_cell hgrow (by go_grown) G3 HVW.out
   have y4 := append_cell hgrow (by go_grown) G4 HVW.out
   have k7 := heap_cell h7 (j := 9) (u := v) rfl
   have kf7 := heap_free h7 (j := 9)
   have HK7 : Hid (∀ k, k < w5.heap.size → v.ownBlock ≠ some k → w7.heap[k]? = w5.heap[k]?) := Lib.hid (fun k hk hne => append_other hgrow (by go_grown) hk hne)
   have HBW7 : Hid (Below B w w7) := Lib.hid (append_below hgrow (by go_grown) HBW6.out (by omega) (fun k hk => (HO6.out.lt k hk).1))
   have H7 := Lib.hid h7
   have HO7 := Lib.hid hown7
   clear h7 hgrow hown7
   refine hK.out _ _ ?_ (fun hHeld => ?_)
   ·(try dsimp only)
    first
     | (refine ⟨⟨?_, ?_⟩, ?_⟩ <;> assumption)
     | (refine ⟨⟨cell_keep ?_ G3, cell_keep ?_ G4⟩, cell_keep ?_ B9⟩ <;> (go_grown; done))
   clear hK K
   (try change wpAnyN _ _ _ _ _ _ _ _ (Act.put _ (some 81) _) _)
   try (unfold Act.put; dsimp only)
   refine wpAnyN_take [13, 14] (i := 12) (v := ?_) rfl (by kernel_rfl) (by kernel_rfl) (by kernel_rfl) (by kernel_rfl) (by kernel_rfl) (fun _ _ _ h => h) (Or.inl ⟨by first | kernel_rfl | rfl, ?_⟩) (by assumption) ?_
   rotate_left
   focus
    intro w hSw
    (try dsimp only at hSw)
    go_simp
    try with_reducible rfl
   (try change wpAnyN _ _ _ _ _ _ _ _ (Act.put _ (some 82) _) _)
   try (unfold Act.put; dsimp only)
   refine wpAnyN_take [14] (i := 13) (v := ?_) rfl (by kernel_rfl) (by kernel_rfl) (by kernel_rfl) (by kernel_rfl) (by kernel_rfl) (fun _ _ _ h => h) (Or.inl ⟨by first | kernel_rfl | rfl, ?_⟩) (by assumption) ?_
   rotate_left
   focus
    intro w hSw
    (try dsimp only at hSw)
    go_simp
    try with_reducible rfl
   (try change wpAnyN _ _ _ _ _ _ _ _ (Act.put _ (some 83) _) _)
   try (unfold Act.put; dsimp only)
   refine wpAnyN_ready (rs := [14]) (by kernel_rfl) (by simp) ?_
   refine AllReadyN.last rfl rfl (fun K hK => ?_) ?_
   ·go_simp
    refine hK.out _ _ ?_
    clear hK K
    try (unfold Act.put; dsimp only)
    refine wpAnyN_done (by kernel_rfl) ?_ _
    go_wp2
    go_ret
    refine ⟨rfl, .slice (some ⟨gg, 0, none⟩) (l.length + 1) cap, ?_, ?_, ?_, ?_, ?_, ?_⟩
    ·exact (heap_put w7 b 9 _ _ _ H7.out).trans rfl
    ·exact has_at HX5.out ((heap_set w7 b 9 _ mb HBB.out.2.2.1).trans (HK7.out mb e6m HBB.out.2.2.2.2))
    ·rw [flatG_snoc, List.length_append]
     refine own_at HO7.out fun k hk => heap_set w7 b 9 _ k ?_
     intro e
     simp [Value.ownBlock] at hk
     rcases hat with h | h
     ·exact HVB.out (by rw [h, ← e, hk])
     ·first | omega | (simp at h; omega)
    ·intro k hk
     simp [Value.ownBlock] at hk
     subst hk
     rcases hat with h | h
     ·exact .inl h
     ·right; first | omega | (simp at h; omega)
    ·intro k hk h1 h2 h3
     exact (heap_set w7 b 9 _ k h1).trans ((HK7.out k (by omega) h3).trans (HK5.out k hk h1 h2))
    ·exact HBW7.out.setCell HBB.out.1 _
   exact AllReadyN.nil
  exact AllReadyN.nil
 exact AllReadyN.nil
set_option maxRecDepth 100000 in
set_option maxHeartbeats 4000000 in
theorem granted_ok2 (B b mb : Nat) (v : Value) (z : Tx) (c x t r m q p : Int) (w : World) (hb : w.heap[b]? = some (.cells (oneC z mb v) 223 (0, 0))) (hX : HasX w mb z.got) (hO : w.ownsRow B 238 4 v z.got.length (flatG z.got)) (hB : B ≤ w.heap.size) (hbb : B ≤ b ∧ B ≤ mb ∧ mb ≠ b ∧ v.ownBlock ≠ some b ∧ v.ownBlock ≠ some mb) (hG : GotOk z.got) (hy : 0 ≤ z.mode ∧ z.mode ≤ 4) (hT : (Lit.int .i64 t).wf = true) (hR : (Lit.int .i64 r).wf = true) (hn : z.got.length ≤ 1000)
 (haim : leastI (modeOf t r z.got) z.mode = m) (hr : 0 < r) (hne : needE z.mode = 0) (hcv : covB (modeOf t 0 z.got) (needI z.mode) = true) :
 Calls Tryz.prog 144 #[.pointer (some ⟨b, 0, none⟩), .agg #[.int .i64 3, .int .i64 c, .int .i64 x, .int .i64 t, .int .i64 r, .int .i64 m, .int .i64 q], .int .i64 p] w fun e w' => e = .returned .nilIface ∧ GrantOf w w' B b mb v { z with opn := false, got := z.got ++ [⟨t, r, m, p⟩] } := by
 have c4 := heap_cell hb (j := 4) (u := .bool z.opn) rfl
 have c7 := heap_cell hb (j := 7) (u := .int .i64 z.mode) rfl
 have c8 := heap_cell hb (j := 8) (u := .map (some mb)) rfl
 have hf := heap_free hb (j := 4)
 have lb := lt_of_block hb
 obtain ⟨y, hyy⟩ : ∃ y, z.mode = y := ⟨_, rfl⟩
 obtain ⟨l, hll⟩ : ∃ l, z.got = l := ⟨_, rfl⟩
 have HH := Lib.hid hb
 have HO := Lib.hid hO
 have HBB := Lib.hid hbb
 rw [hyy] at c7 hy haim hne hcv
 rw [hll] at hX hG hn haim HO hcv ⊢
 have HLL := Lib.hid hll
 have HYY := Lib.hid hyy
 clear hb hO hbb hll hyy
 have HN := Lib.hid hne
 obtain ⟨d, hd⟩ : ∃ d, modeOf t 0 l = d := ⟨_, rfl⟩
 rw [hd] at hcv
 have HD := Lib.hid hd
 have HC := Lib.hid (fun W => cov_any d (needI y) W)
 rw [hcv] at HC
 clear hd hcv hne
 obtain ⟨w1, hw1⟩ : ∃ W, w.alloc (.cells #[.int .i64 3, .int .i64 c, .int .i64 x, .int .i64 t, .int .i64 r, .int .i64 m, .int .i64 q] 44) = W := ⟨_, rfl⟩
 have hb1 : Below w.heap.size w w1 := by rw [← hw1]; exact (Below.refl _ _).alloc (Nat.le_refl _) _
 have hs1 : w1.heap.size = w.heap.size + 1 := by rw [← hw1]; simp
 have E3 : w1.cell? ⟨w.heap.size, 3, none⟩ = some (.int .i64 t) := by rw [← hw1]; simp
 have E4 : w1.cell? ⟨w.heap.size, 4, none⟩ = some (.int .i64 r) := by rw [← hw1]; simp
 have E5 : w1.cell? ⟨w.heap.size, 5, none⟩ = some (.int .i64 m) := by rw [← hw1]; simp
 have C7 := cell_keep hb1 c7
 have C8 := cell_keep hb1 c8
 have hlk := fun n => (has_below hX (below_drewN hb1 n)).look hG hT hR
 have HW1 := Lib.hid hw1
 have HB1 := Lib.hid hb1
 have HS1 := Lib.hid hs1
 clear hw1 hb1 hs1
 have HX := Lib.hid hX
 have HT := Lib.hid hT
 have HR := Lib.hid hR
 have HC7 := Lib.hid c7
 have HC8 := Lib.hid c8
 have HG := Lib.hid hG
 have hin := modeOf_in hG t r
 obtain ⟨a, ha⟩ : ∃ a, modeOf t r l = a := ⟨_, rfl⟩
 rw [ha] at hlk hin haim
 have HA := Lib.hid ha
 obtain ⟨aim, hai⟩ : ∃ aim, leastI a y = aim := ⟨_, rfl⟩
 have HL := Lib.hid (fun W => mleast_ok a y W hin hy)
 have hli := leastI_in a y
 rw [hai] at HL haim hli
 have HI := Lib.hid hli
 clear hli
 clear ha hX hT hR c7 c8 hG hai
 go_enter Tryz.func144, Tryz.ntmps144
 go_wp2_with fail
 rw [HW1.out]
 go_quiet ((go_at_call 149; exact Calls.quiet_of_same ((HL.out _).mono (fun _ _ h => ⟨h.1, h.2.symm⟩))))
 subst haim
 have HEX1 : Hid (w1.heap[w.heap.size]? = some (.cells #[.int .i64 3, .int .i64 c, .int .i64 x, .int .i64 t, .int .i64 r, .int .i64 aim, .int .i64 q] 44 (0, 0))) := Lib.hid (by rw [← HW1.out, heap_push, if_pos rfl])
 clear C7 C8 E3 E4 E5 hlk
 generalize hw2 : World.drewN w1 nq = w2
 have HBw2 : Hid (Below w.heap.size w w2) := Lib.hid (by rw [← hw2]; exact below_drewN HB1.out nq)
 have HSZw2 : Hid (w2.heap.size = w.heap.size + 1) := Lib.hid (by rw [← hw2]; exact HS1.out)
 have HEXw2 : Hid (w2.heap[w.heap.size]? = some (.cells #[.int .i64 3, .int .i64 c, .int .i64 x, .int .i64 t, .int .i64 r, .int .i64 aim, .int .i64 q] 44 (0, 0))) := Lib.hid (by rw [← hw2]; exact HEX1.out)
 clear hw2
 have F3 := heap_cell HEXw2.out (j := 3) (u := .int .i64 t) rfl
 have F4 := heap_cell HEXw2.out (j := 4) (u := .int .i64 r) rfl
 have F5 := heap_cell HEXw2.out (j := 5) (u := .int .i64 aim) rfl
 have F7 := cell_keep HBw2.out HC7.out
 have F8 := cell_keep HBw2.out HC8.out
 go_wp2_with (go_at_call 150; refine (mneed_good _ _ HN.out).mono ?_; rintro e w' ⟨rfl, rfl⟩)
 have hlk2 := fun n => (has_below HX.out (below_drewN HBw2.out n)).look HG.out HT.out (wf_of 0 (by decide))
 rw [HD.out] at hlk2
 go_quiet ((go_at_call 151; exact Calls.quiet_of_same ((HC.out _).mono (fun _ _ h => ⟨h.1, h.2.symm⟩))))
 clear F3 F4 F5 F7 F8 hlk2
 generalize hw2 : World.drewN w2 nq = w2b
 have HBw2b : Hid (Below w.heap.size w w2b) := Lib.hid (by rw [← hw2]; exact below_drewN HBw2.out nq)
 have HSZw2b : Hid (w2b.heap.size = w.heap.size + 1) := Lib.hid (by rw [← hw2]; exact HSZw2.out)
 have HEXw2b : Hid (w2b.heap[w.heap.size]? = some (.cells #[.int .i64 3, .int .i64 c, .int .i64 x, .int .i64 t, .int .i64 r, .int .i64 aim, .int .i64 q] 44 (0, 0))) := Lib.hid (by rw [← hw2]; exact HEXw2.out)
 clear hw2
 have D4 := cell_keep HBw2b.out c4
 have DF : w2b.frozen? ⟨b, 4, none⟩ = false := (HBw2b.out.frozen (p := ⟨b, 4, none⟩) lb).trans hf
 go_wp2_with fail
 generalize hw3 : w2b.setCell ⟨b, 4, none⟩ (.bool false) = w3
 have hs3 : w3.heap.size = w.heap.size + 1 := by rw [← hw3, ← HSZw2b.out]; simp
 have lb1 := HSZw2b.out
 have hk3 : ∀ k, k < w.heap.size → k ≠ b → w3.heap[k]? = w.heap[k]? := fun k hk hne => by rw [← hw3]; exact (heap_set _ b 4 _ k hne).trans (HBw2b.out.block k hk)
 have hb3 : w3.heap[b]? = some (.cells (oneC { z with opn := false } mb v) 223 (0, 0)) := by rw [← hw3]; exact heap_put _ b 4 _ _ _ ((HBw2b.out.block b lb).trans HH.out)
 have hB3 : Below B w w3 := by rw [← hw3]; exact (HBw2b.out.mono hB).setCell HBB.out.1 _
 have he3 : w3.heap[w.heap.size]? = some (.cells #[.int .i64 3, .int .i64 c, .int .i64 x, .int .i64 t, .int .i64 r, .int .i64 aim, .int .i64 q] 44 (0, 0)) := by
  rw [← hw3]
  exact (heap_set _ b 4 _ _ (by omega)).trans HEXw2b.out
 refine wp_region_still_tail 7 (by kernel_rfl) (by kernel_rfl) ?_
 simp only [List.take_succ_cons, List.take_zero, List.drop_succ_cons, List.drop_zero]
 change wpStill _ _ (World.drew w3) (fun a' => wpList _ _ _ _ a' (World.drew w3)) _ _
 generalize hw4 : World.drew w3 = w4
 have hh4 : w4.heap = w3.heap := by rw [← hw4]; rfl
 rw [← hh4] at hs3 hk3 hb3 he3
 have hB4 : Below B w w4 := by rw [← hw4]; exact hB3.drew
 have B8 := heap_cell hb3 (j := 8) (u := .map (some mb)) rfl
 have G3 := heap_cell he3 (j := 3) (u := .int .i64 t) rfl
 have G4 := heap_cell he3 (j := 4) (u := .int .i64 r) rfl
 have HS4 := Lib.hid hs3
 have HK4 := Lib.hid hk3
 have HB4 := Lib.hid hb3
 have HE4 := Lib.hid he3
 have HBW4 := Lib.hid hB4
 clear hw3 hB3 hw4 hh4 hs3 hk3 hb3 he3 hB4 D4 DF
 repeat still_step
 try refine wpStill_nil ?_
 have hX4 : HasX w4 mb l := has_at HX.out (HK4.out mb (has_lt HX.out) HBB.out.2.2.1)
 refine wpList_mapUpdate_in _ rfl _ _ _ 220 rfl 23 31 resKeyed Tryz.underlying220 (plainElem Tryz.prog 31) mb l.length (gotD l) rfl hX4 (by unfold maxLen; omega) (.agg #[.int .i64 t, .int .i64 r]) (.int .i64 aim) (resK t r) rfl rfl (keyOf_res HT.out HR.out) (modeD aim) [] (plainMode HI.out) ?_
 intro w5 hown5 hturn5
 have hg5 := hturn5.grown
 have HX5 : Hid (HasX w5 mb (l ++ [⟨t, r, aim, p⟩])) := Lib.hid (by unfold HasX; rw [gotD_snoc, List.length_append]; exact hown5)
 have hk5 : ∀ k, k < w4.heap.size → k ≠ mb → w5.heap[k]? = w4.heap[k]? := fun k hk hne => hg5.block k hk (fun e => hne (Option.some.inj e))
 have hs5 : w4.heap.size ≤ w5.heap.size := hg5.size
 have lmb := has_lt HX.out
 have hs4 := HS4.out
 have hb5 := (hk5 b (by omega) (fun e => HBB.out.2.2.1 e.symm)).trans HB4.out
 have he5 := (hk5 w.heap.size (by omega) (by omega)).trans HE4.out
 have hB5 : Below B w w5 := HBW4.out.grown hg5 (by omega) (fun k hk => by cases hk; exact HBB.out.2.1)
 have HK5 : Hid (∀ k, k < w.heap.size → k ≠ b → k ≠ mb → w5.heap[k]? = w.heap[k]?) := Lib.hid (fun k hk h1 h2 => (hk5 k (by omega) h2).trans (HK4.out k hk h1))
 clear hown5 hturn5 hg5 hk5 hX4 HK4 B8 G3 G4 HX
 go_wp2_with fail
 have hb6 : Below B w w5 := hB5
 have B9 := heap_cell hb5 (j := 9) (u := v) rfl
 have BF := heap_free hb5 (j := 9)
 have G3 := heap_cell he5 (j := 3) (u := .int .i64 t) rfl
 have G4 := heap_cell he5 (j := 4) (u := .int .i64 r) rfl
 have hO6 : w5.ownsRow B 238 4 v l.length (flatG l) := own_at HO.out (fun k hk => HK5.out k (HO.out.lt k hk).2 (fun e => HBB.out.2.2.2.1 (by rw [hk, e])) (fun e => HBB.out.2.2.2.2 (by rw [hk, e])))
 have hvw : v.ownBlock ≠ some w.heap.size := fun e => by have := (HO.out.lt _ e).2; omega
 have HVW := Lib.hid hvw
 have HVB := Lib.hid HBB.out.2.2.2.1
 have HB6 := Lib.hid hb5
 have HBW6 := Lib.hid hB5
 have HO6 := Lib.hid hO6
 have e6 : w.heap.size < w5.heap.size := by omega
 have e6' : b < w5.heap.size := by omega
 have e6m : mb < w5.heap.size := by omega
 have ne6 : ¬ b = w5.heap.size := by omega
 have ne6' : ¬ w.heap.size = w5.heap.size := by omega
 have nbw : ¬ b = w.heap.size := by omega
 have hle6 : w.heap.size ≤ w5.heap.size := by omega
 obtain ⟨i0, hi0, hz0, hz1, hz2⟩ := info_parts got_info
 clear hB5 hb6 hb5 he5 hO6 hs4 hs5 lmb HB4 HE4 HBW4 hvw
 refine wp_region_N (S := (fun w' => (w'.cell? ⟨w.heap.size, 3, none⟩ = some (.int .i64 t) ∧ w'.cell? ⟨w.heap.size, 4, none⟩ = some (.int .i64 r)) ∧ w'.cell? ⟨b, 9, none⟩ = some v)) (fun i => !(i == 14)) (by kernel_rfl) ?_ (fun hHeld => ?_)
 ·(try dsimp only)
  first
   | (refine ⟨⟨?_, ?_⟩, ?_⟩ <;> assumption)
   | (refine ⟨⟨cell_keep ?_ G3, cell_keep ?_ G4⟩, cell_keep ?_ B9⟩ <;> (go_grown; done))
 refine wpAnyN_take [12, 13, 14] (i := 0) (v := ?_) rfl (by kernel_rfl) (by kernel_rfl) (by kernel_rfl) (by kernel_rfl) (by kernel_rfl) (fun _ _ _ h => h) (Or.inl ⟨by first | kernel_rfl | rfl, ?_⟩) (by assumption) ?_
 rotate_left
 focus
  intro w hSw
  (try dsimp only at hSw)
  go_simp
  try with_reducible rfl
 (try change wpAnyN _ _ _ _ _ _ _ _ (Act.put _ (some 70) _) _)
 try (unfold Act.put; dsimp only)
 refine wpAnyN_take [2, 3, 4, 11, 12, 13, 14] (i := 1) (v := ?_) rfl (by kernel_rfl) (by kernel_rfl) (by kernel_rfl) (by kernel_rfl) (by kernel_rfl) (fun _ _ _ h => h) (Or.inl ⟨by first | kernel_rfl | rfl, ?_⟩) (by assumption) ?_
 rotate_left
 focus
  intro w hSw
  (try dsimp only at hSw)
  go_simp
  try with_reducible rfl
 (try change wpAnyN _ _ _ _ _ _ _ _ (Act.put _ (some 71) _) _)
 try (unfold Act.put; dsimp only)
 refine wpAnyN_take [3, 4, 11, 12, 13, 14] (i := 2) (v := ?_) rfl (by kernel_rfl) (by kernel_rfl) (by kernel_rfl) (by kernel_rfl) (by kernel_rfl) (fun _ _ _ h => h) (Or.inl ⟨by first | kernel_rfl | rfl, ?_⟩) (by assumption) ?_
 rotate_left
 focus
  intro w hSw
  (try dsimp only at hSw)
  go_simp
  try with_reducible rfl
 (try change wpAnyN _ _ _ _ _ _ _ _ (Act.put _ (some 72) _) _)
 try (unfold Act.put; dsimp only)
 refine wpAnyN_take [4, 11, 12, 13, 14] (i := 3) (v := ?_) rfl (by kernel_rfl) (by kernel_rfl) (by kernel_rfl) (by kernel_rfl) (by kernel_rfl) (fun _ _ _ h => h) (Or.inl ⟨by first | kernel_rfl | rfl, ?_⟩) (by assumption) ?_
 rotate_left
 focus
  intro w hSw
  (try dsimp only at hSw)
  go_simp
  try with_reducible rfl
 (try change wpAnyN _ _ _ _ _ _ _ _ (Act.put _ (some 73) _) _)
 try (unfold Act.put; dsimp only)
 refine wpAnyN_take [11, 12, 13, 14] (i := 4) (v := ?_) rfl (by kernel_rfl) (by kernel_rfl) (by kernel_rfl) (by kernel_rfl) (by kernel_rfl) (fun _ _ _ h => h) (Or.inl ⟨by first | kernel_rfl | rfl, ?_⟩) (by assumption) ?_
 rotate_left
 focus
  intro w hSw
  (try dsimp only at hSw)
  go_simp
  try with_reducible rfl
 (try change wpAnyN _ _ _ _ _ _ _ _ (Act.put _ (some 74) _) _)
 try (unfold Act.put; dsimp only)
 refine wpAnyN_take [6, 9, 10, 11, 12, 13, 14] (i := 5) (v := ?_) rfl (by kernel_rfl) (by kernel_rfl) (by kernel_rfl) (by kernel_rfl) (by kernel_rfl) (fun _ _ _ h => h) (Or.inl ⟨by first | kernel_rfl | rfl, ?_⟩) (by assumption) ?_
 rotate_left
 focus
  intro w hSw
  (try dsimp only at hSw)
  go_simp
  try with_reducible rfl
 (try change wpAnyN _ _ _ _ _ _ _ _ (Act.put _ (some 75) _) _)
 try (unfold Act.put; dsimp only)
 refine wpAnyN_take [9, 10, 11, 12, 13, 14] (i := 6) (v := ?_) rfl (by kernel_rfl) (by kernel_rfl) (by kernel_rfl) (by kernel_rfl) (by kernel_rfl) (fun _ _ _ h => h) (Or.inl ⟨by first | kernel_rfl | rfl, ?_⟩) (by assumption) ?_
 rotate_left
 focus
  intro w hSw
  (try dsimp only at hSw)
  go_simp
  try with_reducible rfl
 (try change wpAnyN _ _ _ _ _ _ _ _ (Act.put _ (some 76) _) _)
 try (unfold Act.put; dsimp only)
 refine wpAnyN_take [9, 10, 11, 12, 13, 14] (i := 7) (v := ?_) rfl (by kernel_rfl) (by kernel_rfl) (by kernel_rfl) (by kernel_rfl) (by kernel_rfl) (fun _ _ _ h => h) (Or.inl ⟨by first | kernel_rfl | rfl, ?_⟩) (by assumption) ?_
 rotate_left
 focus
  intro w hSw
  (try dsimp only at hSw)
  go_simp
  try with_reducible rfl
 (try change wpAnyN _ _ _ _ _ _ _ _ (Act.put _ (some 77) _) _)
 try (unfold Act.put; dsimp only)
 refine wpAnyN_take [9, 10, 11, 12, 13, 14] (i := 8) (v := ?_) rfl (by kernel_rfl) (by kernel_rfl) (by kernel_rfl) (by kernel_rfl) (by kernel_rfl) (fun _ _ _ h => h) (Or.inl ⟨by first | kernel_rfl | rfl, ?_⟩) (by assumption) ?_
 rotate_left
 focus
  intro w hSw
  (try dsimp only at hSw)
  go_simp
  try with_reducible rfl
 (try change wpAnyN _ _ _ _ _ _ _ _ (Act.put _ (some 78) _) _)
 try (unfold Act.put; dsimp only)
 refine wpAnyN_take [10, 11, 12, 13, 14] (i := 9) (v := ?_) rfl (by kernel_rfl) (by kernel_rfl) (by kernel_rfl) (by kernel_rfl) (by kernel_rfl) (fun _ _ _ h => h) (Or.inl ⟨by first | kernel_rfl | rfl, ?_⟩) (by assumption) ?_
 rotate_left
 focus
  intro w hSw
  (try dsimp only at hSw)
  go_simp
  try with_reducible rfl
 (try change wpAnyN _ _ _ _ _ _ _ _ (Act.put _ (some 79) _) _)
 try (unfold Act.put; dsimp only)
 refine wpAnyN_ready (rs := [10]) (by kernel_rfl) (by simp) ?_
 refine AllReadyN.cons rfl (fun K hK => ?_) ?_
 ·go_simp
  refine hK.out _ _ ?_ (fun hHeld => ?_)
  ·(try dsimp only)
   first
    | (refine ⟨⟨?_, ?_⟩, ?_⟩ <;> assumption)
    | (refine ⟨⟨cell_keep ?_ G3, cell_keep ?_ G4⟩, cell_keep ?_ B9⟩ <;> (go_grown; done))
  clear hK K
  (try change wpAnyN _ _ _ _ _ _ _ _ (Act.put _ (some 80) _) _)
  try (unfold Act.put; dsimp only)
  refine wpAnyN_ready (rs := [11]) (by kernel_rfl) (by simp) ?_
  refine AllReadyN.cons rfl (fun K hK => ?_) ?_
  ·refine step_append_lies _ (by rfl) _ _ _ (by rfl) B 238 i0 _ 4 32 Tryz.underlying221 hi0 hz0 hz1 hz2 rfl (by decide) v l.length (flatG l) (by rfl) (own_below HO6.out (by go_grown)) _ 1 1 [.int .i64 t, .int .i64 r, .int .i64 aim, .int .i64 p] (by rfl) (by rfl) (World.news_of_block (cs := #[.int .i64 t, .int .i64 r, .int .i64 aim, .int .i64 p]) (t := 238) (fr := (0, 0)) (by (repeat (first | rw [heap_drew] | rw [heap_push])); simp)) (by simp [Value.oneCell']) (by decide) (by unfold maxLen; omega) (by omega) (by simp <;> omega) _ rfl ?_
   intro gg cap w7 hown7 hgrow hat hlt7
   have h7 := append_keep hgrow (by go_grown) HB6.out HVB.out
   have y3 := append_cell hgrow (by go_grown) G3 HVW.out
   have y4 := append_cell hgrow (by go_grown) G4 HVW.out
   have k7 := heap_cell h7 (j := 9) (u := v) rfl
   have kf7 := heap_free h7 (j := 9)
   have HK7 : Hid (∀ k, k < w5.heap.size → v.ownBlock ≠ some k → w7.heap[k]? = w5.heap[k]?) := Lib.hid (fun k hk hne => append_other hgrow (by go_grown) hk hne)
   have HBW7 : Hid (Below B w w7) := Lib.hid (append_below hgrow (by go_grown) HBW6.out (by omega) (fun k hk => (HO6.out.lt k hk).1))
   have H7 := Lib.hid h7
   have HO7 := Lib.hid hown7
   clear h7 hgrow hown7
   refine hK.out _ _ ?_ (fun hHeld => ?_)
   ·(try dsimp only)
    first
     | (refine ⟨⟨?_, ?_⟩, ?_⟩ <;> assumption)
     | (refine ⟨⟨cell_keep ?_ G3, cell_keep ?_ G4⟩, cell_keep ?_ B9⟩ <;> (go_grown; done))
   clear hK K
   (try change wpAnyN _ _ _ _ _ _ _ _ (Act.put _ (some 81) _) _)
   try (unfold Act.put; dsimp only)
   refine wpAnyN_take [13, 14] (i := 12) (v := ?_) rfl (by kernel_rfl) (by kernel_rfl) (by kernel_rfl) (by kernel_rfl) (by kernel_rfl) (fun _ _ _ h => h) (Or.inl ⟨by first | kernel_rfl | rfl, ?_⟩) (by assumption) ?_
   rotate_left
   focus
    intro w hSw
    (try dsimp only at hSw)
    go_simp
    try with_reducible rfl
   (try change wpAnyN _ _ _ _ _ _ _ _ (Act.put _ (some 82) _) _)
   try (unfold Act.put; dsimp only)
   refine wpAnyN_take [14] (i := 13) (v := ?_) rfl (by kernel_rfl) (by kernel_rfl) (by kernel_rfl) (by kernel_rfl) (by kernel_rfl) (fun _ _ _ h => h) (Or.inl ⟨by first | kernel_rfl | rfl, ?_⟩) (by assumption) ?_
   rotate_left
   focus
    intro w hSw
    (try dsimp only at hSw)
    go_simp
    try with_reducible rfl
   (try change wpAnyN _ _ _ _ _ _ _ _ (Act.put _ (some 83) _) _)
   try (unfold Act.put; dsimp only)
   refine wpAnyN_ready (rs := [14]) (by kernel_rfl) (by simp) ?_
   refine AllReadyN.last rfl rfl (fun K hK => ?_) ?_
   ·go_simp
    refine hK.out _ _ ?_
    clear hK K
    try (unfold Act.put; dsimp only)
    refine wpAnyN_done (by kernel_rfl) ?_ _
    go_wp2
    go_ret
    refine ⟨rfl, .slice (some ⟨gg, 0, none⟩) (l.length + 1) cap, ?_, ?_, ?_, ?_, ?_, ?_⟩
    ·exact (heap_put w7 b 9 _ _ _ H7.out).trans rfl
    ·exact has_at HX5.out ((heap_set w7 b 9 _ mb HBB.out.2.2.1).trans (HK7.out mb e6m HBB.out.2.2.2.2))
    ·rw [flatG_snoc, List.length_append]
     refine own_at HO7.out fun k hk => heap_set w7 b 9 _ k ?_
     intro e
     simp [Value.ownBlock] at hk
     rcases hat with h | h
     ·exact HVB.out (by rw [h, ← e, hk])
     ·first | omega | (simp at h; omega)
    ·intro k hk
     simp [Value.ownBlock] at hk
     subst hk
     rcases hat with h | h
     ·exact .inl h
     ·right; first | omega | (simp at h; omega)
    ·intro k hk h1 h2 h3
     exact (heap_set w7 b 9 _ k h1).trans ((HK7.out k (by omega) h3).trans (HK5.out k hk h1 h2))
    ·exact HBW7.out.setCell HBB.out.1 _
   exact AllReadyN.nil
  exact AllReadyN.nil
 exact AllReadyN.nil
end Go.Proofs.YtjpjlfjaapfnkaaGreatDoor.C20
namespace Go.Proofs.YtjpjlfjaapfnkaaGreatDoor.C20
open Go.ChangeShapes Go.WideShapes Go.ChangeAt Go.RowKit Go.Maps
theorem StAt.one {w : World} {B : Nat} {tag : Nat → Nat} {g : Nat} {s : St} {bs : List Nat} {va vs : Value} {cs : Array Value} (h : StAt w B tag g s bs va vs cs) {i b : Nat} {x : Tx} (hi : bs[i]? = some b) (hx : s.all[i]? = some x) : TxAt w B tag (3 + i) b x := h.2.2.2.2.2.2.2.2.2.2.2.2.2 i b x hi hx
theorem StAt.gtag {w : World} {B : Nat} {tag : Nat → Nat} {g : Nat} {s : St} {bs : List Nat} {va vs : Value} {cs : Array Value} (h : StAt w B tag g s bs va vs cs) : tag g = 0 := h.2.2.2.2.2.2.2.1
theorem StAt.gB {w : World} {B : Nat} {tag : Nat → Nat} {g : Nat} {s : St} {bs : List Nat} {va vs : Value} {cs : Array Value} (h : StAt w B tag g s bs va vs cs) : B ≤ g := h.2.2.2.2.2.2.1
theorem StAt.lens {w : World} {B : Nat} {tag : Nat → Nat} {g : Nat} {s : St} {bs : List Nat} {va vs : Value} {cs : Array Value} (h : StAt w B tag g s bs va vs cs) : bs.length = s.all.length := h.2.2.2.2.2.2.2.2.2.2.2.2.1
theorem StAt.store {w : World} {B : Nat} {tag : Nat → Nat} {g : Nat} {s : St} {bs : List Nat} {va vs : Value} {cs : Array Value} (h : StAt w B tag g s bs va vs cs) {i b : Nat} {x y : Tx} (hi : bs[i]? = some b) (hx : s.all[i]? = some x) (j : Nat) (u : Value)
 (hy : ∀ mb v, (oneC x mb v).setIfInBounds j u = oneC y mb v) (hg : y.got = x.got) : StAt (w.setCell ⟨b, j, none⟩ u) B tag g ⟨s.all.set i y, s.dead, s.now, s.serial⟩ bs va vs cs := by
 obtain ⟨mb, v, h1, h2, h3, hr⟩ := h.one hi hx
 refine h.put hi (fun k hk ht => ⟨heap_set w b j u k (fun e => ht (by rw [e]; exact hr.2.2.2.2.2.1)), rfl⟩) ?_
 exact TxAt.set h2 h3 hr (fun k hk hne => heap_set w b j u k hne) (by rw [heap_put w b j _ _ u h1, hy]) hg
theorem StAt.ne {w : World} {B : Nat} {tag : Nat → Nat} {g : Nat} {s : St} {bs : List Nat} {va vs : Value} {cs : Array Value} (h : StAt w B tag g s bs va vs cs) {i b : Nat} {x : Tx} (hi : bs[i]? = some b) (hx : s.all[i]? = some x) : b ≠ g ∧ B ≤ b ∧ b < w.heap.size := by
 obtain ⟨mb, v, h1, _, _, h4, _, _, _, _, h9, _⟩ := h.one hi hx
 exact ⟨fun e => by have := h.gtag; rw [← e, h9] at this; omega, h4, lt_of_block h1⟩
theorem over_st {w : World} {B : Nat} {tag : Nat → Nat} {g : Nat} {s : St} {bs : List Nat} {va vs : Value} {cs : Array Value} (h : StAt w B tag g s bs va vs cs) {i b : Nat} {x : Tx} (hi : bs[i]? = some b) (hx : s.all[i]? = some x) (hc : 1 ≤ x.client ∧ x.client ≤ 8) :
 Calls Tryz.prog 146 #[.pointer (some ⟨g, 0, none⟩), .pointer (some ⟨b, 0, none⟩)] w fun e w' => e = .returned (.tuple #[]) ∧ StX w' B tag g ⟨s.all.set i { x with state := 3 }, s.dead, off s.now x.client false, s.serial⟩ ∧ Below B w w' := by
 obtain ⟨c, hcc⟩ := Int.eq_ofNat_of_zero_le (show 0 ≤ x.client by omega)
 obtain ⟨mb, v, h1, h2, h3, hr⟩ := h.one hi hx
 obtain ⟨nbg, hBb, _⟩ := h.ne hi hx
 obtain ⟨p, hp1, _⟩ := h.2.2.2.2.2.1 c (by omega)
 refine (over_any g b c (.int .i64 x.state) (.pointer p) w (by omega) (by rw [← hcc]; exact heap_cell h1 rfl) (heap_cell h1 rfl) (heap_cell h.1 hp1) (fun j => heap_free h1) (fun j => heap_free h.1) nbg).mono ?_
 rintro e w' ⟨rfl, hh, hb⟩
 have hS := (h.store (y := { x with state := 3 }) hi hx 0 (.int .i64 3) (fun _ _ => rfl) rfl).setNow c (by omega) none
 have hS2 := hS.same (w' := w') (fun k _ => by rw [hh])
 rw [← hcc] at hS2
 refine ⟨rfl, ⟨bs, va, vs, _, hS2⟩, ?_⟩
 ·refine ⟨hb.os, hb.tape, hb.output, hb.size, fun k hk => ?_⟩
  rw [hh, heap_set _ g _ _ k (by have := h.gB; omega), heap_set _ b _ _ k (by omega)]
theorem granted_st {w : World} {B : Nat} {tag : Nat → Nat} {g : Nat} {s : St} {bs : List Nat} {va vs : Value} {cs : Array Value} (h : StAt w B tag g s bs va vs cs) (hB : B ≤ w.heap.size) {i b : Nat} {x : Tx} (hi : bs[i]? = some b) (hx : s.all[i]? = some x) {n : Nat} (ho : TxOk x n) (hn : n ≤ 1000) (e : Ev) (hk : e.kind = 3) (hr : resB e.table e.row = true) (p : Int) :
 Calls Tryz.prog 144 #[.pointer (some ⟨b, 0, none⟩), .agg #[.int .i64 e.kind, .int .i64 e.client, .int .i64 e.tx, .int .i64 e.table, .int .i64 e.row, .int .i64 e.mode, .int .i64 e.code], .int .i64 p] w fun r w' => StepOf w w' B g (if grantB x e then 0 else 11) ⟨s.all.set i (x.grant e p), s.dead, s.now, s.serial⟩ r := by
 rw [hk]
 obtain ⟨mb, v, h1, h2, h3, hq⟩ := h.one hi hx
 obtain ⟨q1, q2, q3, q4, q5, q6, q7, q8⟩ := hq
 obtain ⟨wt, wr⟩ := res_wf hr
 have c7 := heap_cell h1 (j := 7) (u := .int .i64 x.mode) rfl
 have c8 := heap_cell h1 (j := 8) (u := .map (some mb)) rfl
 have hl : x.got.length ≤ 1000 := by have := ho.len; omega
 have hrow : e.row = 0 ∨ 0 < e.row := by unfold resB at hr; simp at hr; omega
 have done : ∀ {r : Ending} {w' : World}, r = .returned .nilIface → GrantOf w w' B b mb v { x with opn := false, got := x.got ++ [⟨e.table, e.row, e.mode, p⟩] } → StepOf w w' B g 0 ⟨s.all.set i (x.grant e p), s.dead, s.now, s.serial⟩ r := by
  rintro r w' rfl ⟨v', g1, g2, g3, g4, g5, g6⟩
  have hs := g6.size
  refine step_ok (tag := retag tag w.heap.size (3 + i)) g6 rfl ⟨bs, va, vs, cs, h.put hi (fun k hk ht => ⟨g5 k hk (fun e => ht (by rw [e]; exact q6)) (fun e => ht (by rw [e]; exact q7)) (fun e => ht (q8 k e)), retag_old hk⟩) ?_⟩
  have hv : ∀ k, v'.ownBlock = some k → retag tag w.heap.size (3 + i) k = 3 + i ∧ k ≠ b ∧ k ≠ mb := fun k hk => by
   rcases g4 k hk with h | h
   ·exact ⟨(retag_old (h3.lt k h).2).trans (q8 k h), fun e => q4 (by rw [h, e]), fun e => q5 (by rw [h, e])⟩
   ·exact ⟨retag_new h, fun e => by have := lt_of_block h1; omega, fun e => by have := has_lt h2; omega⟩
  exact ⟨mb, v', g1, g2, g3, q1, q2, q3, fun e => (hv b e).2.1 rfl, fun e => (hv mb e).2.2 rfl, (retag_old (lt_of_block h1)).trans q6, (retag_old (has_lt h2)).trans q7, fun k hk => (hv k hk).1⟩
 by_cases ha : leastI (modeOf e.table e.row x.got) x.mode = e.mode
 ·rcases hrow with h0 | h0
  ·have hgB : grantB x e = true := by unfold grantB; rw [decide_eq_true ha]; simp [h0]
   rw [hgB]
   exact (granted_ok1 B b mb v x e.client e.tx e.table e.row e.mode e.code p w h1 h2 h3 hB ⟨q1, q2, q3, q4, q5⟩ ho.got ho.mode wt wr hl ha (by omega)).mono fun r w' ⟨a, c⟩ => done a c
  ·by_cases hn0 : needE x.mode = 0
   ·cases hcv : covB (modeOf e.table 0 x.got) (needI x.mode) with
    | true =>
     have hgB : grantB x e = true := by unfold grantB; simp [ha, hn0, hcv]
     rw [hgB]
     exact (granted_ok2 B b mb v x e.client e.tx e.table e.row e.mode e.code p w h1 h2 h3 hB ⟨q1, q2, q3, q4, q5⟩ ho.got ho.mode wt wr hl ha h0 hn0 hcv).mono fun r w' ⟨a, c⟩ => done a c
    | false =>
     have hgB : grantB x e = false := by unfold grantB; simp [ha, hn0, hcv]; omega
     rw [hgB]
     refine (granted_no3 b mb x.got x.mode e.client e.tx e.table e.row e.mode e.code p w c7 c8 h2 ho.got ho.mode wt wr ha h0 hn0 hcv).mono ?_
     rintro r w' ⟨rfl, hb⟩
     exact step_bad hb hB rfl (by decide)
   ·have hgB : grantB x e = false := by unfold grantB; simp [ha, hn0]; omega
    rw [hgB]
    refine (granted_no2 b mb x.got x.mode e.client e.tx e.table e.row e.mode e.code p w c7 c8 h2 ho.got ho.mode wt wr ha h0 hn0).mono ?_
    rintro r w' ⟨rfl, hb⟩
    exact step_bad hb hB rfl (by decide)
 ·have hgB : grantB x e = false := by unfold grantB; simp [ha]
  rw [hgB]
  refine (granted_no b mb x.got x.mode e.client e.tx e.table e.row e.mode e.code p w c7 c8 h2 ho.got ho.mode wt wr ha).mono ?_
  rintro r w' ⟨rfl, hb⟩
  exact step_bad hb hB rfl (by decide)
end Go.Proofs.YtjpjlfjaapfnkaaGreatDoor.C20
namespace Go.Proofs.YtjpjlfjaapfnkaaGreatDoor.C20
open Go.ChangeShapes Go.WideShapes Go.ChangeAt Go.RowKit Go.Maps
def pairB (fa fb : Int) (x y : Got) : Bool := decide (x.table = y.table ∧ x.row = y.row) && !togB x.mode y.mode && decide (x.place < fb) && decide (y.place < fa)
def rowB (fa fb : Int) (l2 : List Got) (x : Got) : Bool := l2.any fun y => pairB fa fb x y
theorem any_at {l : List Got} {p : Got → Bool} {k : Nat} (h : k < l.length) (hp : p (l.getD k Got.none) = true) : l.any p = true := by
 rw [List.any_eq_true]
 refine ⟨l.getD k Got.none, ?_, hp⟩
 rw [List.getD_eq_getElem?_getD, List.getElem?_eq_getElem h]
 exact List.getElem_mem h
theorem any_no {l : List Got} {p : Got → Bool} (h : ∀ q, q < l.length → p (l.getD q Got.none) = false) : l.any p = false := by
 rw [List.any_eq_false]
 intro x hx
 obtain ⟨q, hq, rfl⟩ := List.mem_iff_getElem.1 hx
 have := h q hq
 rw [List.getD_eq_getElem?_getD, List.getElem?_eq_getElem hq] at this
 simpa using this
theorem upto_next {p : Nat → Bool} {k : Nat} (h : ∀ q, q < k → p q = false) (hk : p k = false) : ∀ q, q < k + 1 → p q = false := fun q hq => by
 rcases Nat.lt_or_ge q k with h1 | h1
 ·exact h q h1
 ·rw [show q = k by omega]; exact hk
set_option maxHeartbeats 4000000 in
theorem clash_any (a b n1 c1 n2 c2 : Nat) (A B : Option Addr) (l1 l2 : List Got) (fa fb : Int) (w : World) (hl1 : l1.length = n1) (hl2 : l2.length = n2) (ha9 : w.cell? ⟨a, 9, none⟩ = some (.slice A n1 c1)) (hb9 : w.cell? ⟨b, 9, none⟩ = some (.slice B n2 c2)) (ha2 : w.cell? ⟨a, 2, none⟩ = some (.int .i64 fa)) (hb2 : w.cell? ⟨b, 2, none⟩ = some (.int .i64 fb)) (h1 : RdG w A l1) (h2 : RdG w B l2) (hn1 : n1 ≤ 1000) (hn2 : n2 ≤ 1000) :
 Calls Tryz.prog 152 #[.pointer (some ⟨a, 0, none⟩), .pointer (some ⟨b, 0, none⟩)] w fun e w' => e = .returned (.bool (l1.any (rowB fa fb l2))) ∧ Below w.heap.size w w' := by
 have L1 := Lib.hid hl1
 have L2 := Lib.hid hl2
 have H1 := Lib.hid h1
 have H2 := Lib.hid h2
 have HA2 := Lib.hid ha2
 have HB2 := Lib.hid hb2
 have HB9 := Lib.hid hb9
 clear hl1 hl2 h1 h2 ha2 hb2 hb9
 go_enter Tryz.func152, Tryz.ntmps152
 go_wp2
 go_loopw [14] (fun i wr => ∃ k : Nat, k ≤ n1 ∧ i = .int .i64 k ∧ Below w.heap.size w wr ∧ ∀ q, q < k → rowB fa fb l2 (l1.getD q Got.none) = false) (fun i _ => n1 - (intOf i).toNat)
 case atStart => exact ⟨0, by omega, rfl, Below.refl _ _, fun q hq => by omega⟩
 case round =>
  obtain ⟨k, hk, rfl, hbr, hno⟩ := hrel
  obtain ⟨wo, rfl⟩ : ∃ W, W = wr := ⟨_, rfl⟩
  have HNO := Lib.hid hno
  clear hno
  by_cases hlt : k < n1
  ·have hlt' : (k : Int) < n1 := by omega
   obtain ⟨gx, ox, hAx, hcx⟩ := H1.out.below hbr
   obtain ⟨rfl, hgx⟩ := hAx (by rw [L1.out]; omega)
   obtain ⟨p0, p1, p2, p3⟩ := hcx k (by rw [L1.out]; exact hlt)
   have HK := Lib.hid (fun (hp : rowB fa fb l2 (l1.getD k Got.none) = true) => any_at (p := rowB fa fb l2) (by rw [L1.out]; exact hlt) hp)
   have HK2 := Lib.hid (fun (hp : rowB fa fb l2 (l1.getD k Got.none) = false) => upto_next (p := fun q => rowB fa fb l2 (l1.getD q Got.none)) HNO.out hp)
   clear hAx hcx
   obtain ⟨X, hX⟩ : ∃ X, l1.getD k Got.none = X := ⟨_, rfl⟩
   rw [hX] at p0 p1 p2 p3 HK HK2
   clear hX HNO
   obtain ⟨xt, xr, xm, xp⟩ := X
   simp only at p0 p1 p2 p3
   have b9 := (hbr.cell (p := ⟨b, 9, none⟩) (lt_of_cell HB9.out)).trans HB9.out
   have lb : b < wo.heap.size := lt_of_cell b9
   have nb : ¬ b = wo.heap.size := by omega
   have nb' : ¬ wo.heap.size = b := by omega
   have hbX : Below wo.heap.size wo (wo.alloc (.cells #[.int .i64 xt, .int .i64 xr, .int .i64 xm, .int .i64 xp] 238)) := (Below.refl _ _).alloc (Nat.le_refl _) _
   have x0 : (wo.alloc (.cells #[.int .i64 xt, .int .i64 xr, .int .i64 xm, .int .i64 xp] 238)).cell? ⟨wo.heap.size, 0, none⟩ = some (.int .i64 xt) := by simp
   have x1 : (wo.alloc (.cells #[.int .i64 xt, .int .i64 xr, .int .i64 xm, .int .i64 xp] 238)).cell? ⟨wo.heap.size, 1, none⟩ = some (.int .i64 xr) := by simp
   have x2 : (wo.alloc (.cells #[.int .i64 xt, .int .i64 xr, .int .i64 xm, .int .i64 xp] 238)).cell? ⟨wo.heap.size, 2, none⟩ = some (.int .i64 xm) := by simp
   have x3 : (wo.alloc (.cells #[.int .i64 xt, .int .i64 xr, .int .i64 xm, .int .i64 xp] 238)).cell? ⟨wo.heap.size, 3, none⟩ = some (.int .i64 xp) := by simp
   have X0 := Lib.hid x0
   have X1 := Lib.hid x1
   have X2 := Lib.hid x2
   have X3 := Lib.hid x3
   clear x0 x1 x2 x3
   have HBX := Lib.hid (hbr.trans (hbX.mono hbr.size))
   go_wp2
   generalize hw1 : wo.alloc _ = w1 at *
   have hs1 : wo.heap.size < w1.heap.size := by rw [← hw1]; simp
   clear hw1
   go_loopw [23] (fun i wx => ∃ j : Nat, j ≤ n2 ∧ i = .int .i64 j ∧ Below w1.heap.size w1 wx ∧ ∀ q, q < j → pairB fa fb ⟨xt, xr, xm, xp⟩ (l2.getD q Got.none) = false) (fun i _ => n2 - (intOf i).toNat)
   case atStart => exact ⟨0, by omega, rfl, Below.refl _ _, fun q hq => by omega⟩
   case round =>
    obtain ⟨j, hj, rfl, hbx, hnj⟩ := hrel
    have HNJ := Lib.hid hnj
    clear hnj
    by_cases hlj : j < n2
    ·have hlj' : (j : Int) < n2 := by omega
     have hbX2 := HBX.out.trans (hbx.mono HBX.out.size)
     obtain ⟨gy, oy, hAy, hcy⟩ := H2.out.below hbX2
     obtain ⟨rfl, hgy⟩ := hAy (by rw [L2.out]; omega)
     obtain ⟨q0, q1, q2, q3⟩ := hcy j (by rw [L2.out]; exact hlj)
     have HJ := Lib.hid (fun (hp : pairB fa fb ⟨xt, xr, xm, xp⟩ (l2.getD j Got.none) = true) => any_at (p := pairB fa fb ⟨xt, xr, xm, xp⟩) (by rw [L2.out]; exact hlj) hp)
     have HJ1 := Lib.hid (fun (hp : pairB fa fb ⟨xt, xr, xm, xp⟩ (l2.getD j Got.none) = false) => upto_next (p := fun q => pairB fa fb ⟨xt, xr, xm, xp⟩ (l2.getD q Got.none)) HNJ.out hp)
     clear hAy hcy
     obtain ⟨Y, hY⟩ : ∃ Y, l2.getD j Got.none = Y := ⟨_, rfl⟩
     rw [hY] at q0 q1 q2 q3 HJ HJ1
     clear hY HNJ
     obtain ⟨yt, yr, ym, yp⟩ := Y
     simp only at q0 q1 q2 q3
     have z0 := (hbx.cell (p := ⟨wo.heap.size, 0, none⟩) hs1).trans X0.out
     have z1 := (hbx.cell (p := ⟨wo.heap.size, 1, none⟩) hs1).trans X1.out
     have z2 := (hbx.cell (p := ⟨wo.heap.size, 2, none⟩) hs1).trans X2.out
     have z3 := (hbx.cell (p := ⟨wo.heap.size, 3, none⟩) hs1).trans X3.out
     have a2 := (hbX2.cell (p := ⟨a, 2, none⟩) (lt_of_cell HA2.out)).trans HA2.out
     have b2 := (hbX2.cell (p := ⟨b, 2, none⟩) (lt_of_cell HB2.out)).trans HB2.out
     have la : a < wr.heap.size := lt_of_cell a2
     have lb : b < wr.heap.size := lt_of_cell b2
     have lx : wo.heap.size < wr.heap.size := lt_of_cell z0
     have ne1 : ¬ wo.heap.size = wr.heap.size := by omega
     have hbB : Below w1.heap.size w1 (wr.alloc (.cells #[.int .i64 yt, .int .i64 yr, .int .i64 ym, .int .i64 yp] 238)) := hbx.alloc hbx.size _
     have HBB := Lib.hid hbB
     by_cases ht : xt = yt
     ·by_cases hr : xr = yr
      ·subst ht hr
       have e1 : (xt == xt) = true := by simp
       have e2 : (xr == xr) = true := by simp
       cases hT : togB xm ym with
       | true =>
        have HJ2 := Lib.hid (HJ1.out (by simp [pairB, hT]))
        go_wp2_with fail
        go_quiet ((go_at_call 155; exact Calls.quiet_of_same ((tog_any _ _ _).mono (fun _ _ h => ⟨h.1, h.2.symm⟩))))
        go_wp2
        first
        | exact ⟨⟨j + 1, by omega, by go_num, hbB.trans (by first | exact below_drewN (Below.refl _ _) _ | go_grown), HJ2.out⟩, by simp [intOf]; omega⟩
        | (go_roundw
           case rel => exact ⟨j + 1, by omega, by go_num, hbB.trans (by first | exact below_drewN (Below.refl _ _) _ | go_grown), HJ2.out⟩
           case measure => simp [intOf]; omega)
       | false =>
        by_cases hp : xp < fb
        ·by_cases hq : yp < fa
         ·have HR := Lib.hid (HK.out (HJ.out (by simp [pairB, hT, hp, hq])))
          go_wp2_with fail
          go_quiet ((go_at_call 155; exact Calls.quiet_of_same ((tog_any _ _ _).mono (fun _ _ h => ⟨h.1, h.2.symm⟩))))
          go_wp2
          go_ret
          exact ⟨by rw [HR.out]; rfl, HBX.out.trans ((HBB.out.trans (by first | exact below_drewN (Below.refl _ _) _ | go_grown)).mono HBX.out.size)⟩
         ·have HJ2 := Lib.hid (HJ1.out (by simp [pairB, hq]))
          go_wp2_with fail
          go_quiet ((go_at_call 155; exact Calls.quiet_of_same ((tog_any _ _ _).mono (fun _ _ h => ⟨h.1, h.2.symm⟩))))
          go_wp2
          first
          | exact ⟨⟨j + 1, by omega, by go_num, hbB.trans (by first | exact below_drewN (Below.refl _ _) _ | go_grown), HJ2.out⟩, by simp [intOf]; omega⟩
          | (go_roundw
             case rel => exact ⟨j + 1, by omega, by go_num, hbB.trans (by first | exact below_drewN (Below.refl _ _) _ | go_grown), HJ2.out⟩
             case measure => simp [intOf]; omega)
        ·have hp' : decide (xp < fb) = false := by simp; omega
         have HJ2 := Lib.hid (HJ1.out (by simp [pairB, hp]))
         go_wp2_with fail
         go_quiet ((go_at_call 155; exact Calls.quiet_of_same ((tog_any _ _ _).mono (fun _ _ h => ⟨h.1, h.2.symm⟩))))
         go_wp2
         first
         | exact ⟨⟨j + 1, by omega, by go_num, hbB.trans (by first | exact below_drewN (Below.refl _ _) _ | go_grown), HJ2.out⟩, by simp [intOf]; omega⟩
         | (go_roundw
            case rel => exact ⟨j + 1, by omega, by go_num, hbB.trans (by first | exact below_drewN (Below.refl _ _) _ | go_grown), HJ2.out⟩
            case measure => simp [intOf]; omega)
      ·have e2 : (xr == yr) = false := by simp [hr]
       have HJ2 := Lib.hid (HJ1.out (by simp [pairB, hr]))
       go_wp2_with fail
       go_quiet ((go_at_call 155; exact Calls.quiet_of_same ((tog_any _ _ _).mono (fun _ _ h => ⟨h.1, h.2.symm⟩))))
       go_wp2
       first
       | exact ⟨⟨j + 1, by omega, by go_num, hbB.trans (by first | exact below_drewN (Below.refl _ _) _ | go_grown), HJ2.out⟩, by simp [intOf]; omega⟩
       | (go_roundw
          case rel => exact ⟨j + 1, by omega, by go_num, hbB.trans (by first | exact below_drewN (Below.refl _ _) _ | go_grown), HJ2.out⟩
          case measure => simp [intOf]; omega)
     ·have e1 : (xt == yt) = false := by simp [ht]
      have HJ2 := Lib.hid (HJ1.out (by simp [pairB, ht]))
      go_wp2_with fail
      go_quiet ((go_at_call 155; exact Calls.quiet_of_same ((tog_any _ _ _).mono (fun _ _ h => ⟨h.1, h.2.symm⟩))))
      go_wp2
      first
      | exact ⟨⟨j + 1, by omega, by go_num, hbB.trans (by first | exact below_drewN (Below.refl _ _) _ | go_grown), HJ2.out⟩, by simp [intOf]; omega⟩
      | (go_roundw
         case rel => exact ⟨j + 1, by omega, by go_num, hbB.trans (by first | exact below_drewN (Below.refl _ _) _ | go_grown), HJ2.out⟩
         case measure => simp [intOf]; omega)
    ·have hj' : j = n2 := by omega
     subst hj'
     have HR := Lib.hid (HK2.out (by unfold rowB; exact any_no (fun q hq => HNJ.out q (by rw [L2.out] at hq; exact hq))))
     have hge : ¬ (j : Int) < j := by omega
     go_wp2
     go_roundw
     case rel => exact ⟨k + 1, by omega, by go_num, HBX.out.trans (hbx.mono HBX.out.size), HR.out⟩
     case measure => simp [intOf]; omega
  ·have hk' : k = n1 := by omega
   subst hk'
   have HR := Lib.hid (any_no (l := l1) (p := rowB fa fb l2) (fun q hq => HNO.out q (by rw [L1.out] at hq; exact hq)))
   have hge : ¬ (k : Int) < k := by omega
   go_wp2
   go_ret
   exact ⟨by rw [HR.out]; rfl, hbr⟩
end Go.Proofs.YtjpjlfjaapfnkaaGreatDoor.C20
namespace Go.Proofs.YtjpjlfjaapfnkaaGreatDoor.C20
open Go.ChangeShapes Go.WideShapes Go.ChangeAt Go.RowKit Go.Maps
theorem clash_st {w : World} {B : Nat} {tag : Nat → Nat} {g : Nat} {s : St} {bs : List Nat} {va vs : Value} {cs : Array Value} (h : StAt w B tag g s bs va vs cs) {i b j c : Nat} {x y : Tx} (hi : bs[i]? = some b) (hx : s.all[i]? = some x) (hj : bs[j]? = some c) (hy : s.all[j]? = some y) (h1 : x.got.length ≤ 1000) (h2 : y.got.length ≤ 1000) :
 Calls Tryz.prog 152 #[.pointer (some ⟨b, 0, none⟩), .pointer (some ⟨c, 0, none⟩)] w fun e w' => e = .returned (.bool (clashB x y)) ∧ Below w.heap.size w w' := by
 obtain ⟨_, A, c1, _, _, _, a2, _, _, _, _, _, _, a9, _, a11, _⟩ := (h.one hi hx).at
 obtain ⟨_, A', c1', _, _, _, b2, _, _, _, _, _, _, b9, _, b11, _⟩ := (h.one hj hy).at
 exact clash_any b c _ _ _ _ A A' x.got y.got x.fin y.fin w rfl rfl a9 b9 a2 b2 a11 b11 h1 h2
set_option maxHeartbeats 1000000 in
theorem comm_bad1 {w : World} {B : Nat} {tag : Nat → Nat} {g : Nat} {s : St} {bs : List Nat} {va vs : Value} {cs : Array Value} (h : StAt w B tag g s bs va vs cs) {i b : Nat} {x : Tx} (hi : bs[i]? = some b) (hx : s.all[i]? = some x) (ek ec ex et er em eq p : Int) (ho : x.opn = true) :
 Calls Tryz.prog 145 #[.pointer (some ⟨g, 0, none⟩), .pointer (some ⟨b, 0, none⟩), .agg #[.int .i64 ek, .int .i64 ec, .int .i64 ex, .int .i64 et, .int .i64 er, .int .i64 em, .int .i64 eq], .int .i64 p] w fun r w' => r = .returned (.iface 70 (.int .i64 11)) ∧ Below w.heap.size w w' := by
 obtain ⟨mb, A, c1, lb, c0, _, c2, c3, c4, _⟩ := (h.one hi hx).at
 have nb : ¬ b = w.heap.size := by omega
 have nb' : ¬ w.heap.size = b := by omega
 rw [ho] at c4
 clear ho h hi hx
 go_enter Tryz.func145, Tryz.ntmps145
 go_wp2
 go_ret
 exact ⟨rfl, by go_grown⟩
set_option maxHeartbeats 1000000 in
theorem comm_bad2 {w : World} {B : Nat} {tag : Nat → Nat} {g : Nat} {s : St} {bs : List Nat} {va vs : Value} {cs : Array Value} (h : StAt w B tag g s bs va vs cs) {i b : Nat} {x : Tx} (hi : bs[i]? = some b) (hx : s.all[i]? = some x) (ek ec ex et er em eq p : Int) (ho : x.opn = false) (hs : ¬ x.state = 2) (ha : x.asked = true) :
 Calls Tryz.prog 145 #[.pointer (some ⟨g, 0, none⟩), .pointer (some ⟨b, 0, none⟩), .agg #[.int .i64 ek, .int .i64 ec, .int .i64 ex, .int .i64 et, .int .i64 er, .int .i64 em, .int .i64 eq], .int .i64 p] w fun r w' => r = .returned (.iface 70 (.int .i64 11)) ∧ Below w.heap.size w w' := by
 obtain ⟨mb, A, c1, lb, c0, _, c2, c3, c4, _⟩ := (h.one hi hx).at
 have nb : ¬ b = w.heap.size := by omega
 have nb' : ¬ w.heap.size = b := by omega
 rw [ho] at c4
 rw [ha] at c3
 obtain ⟨st, hst⟩ : ∃ st, x.state = st := ⟨_, rfl⟩
 rw [hst] at c0 hs
 have hsb : (st != 2) = true := by simp; omega
 clear ho ha h hi hx hst
 go_enter Tryz.func145, Tryz.ntmps145
 go_wp2
 go_ret
 exact ⟨rfl, by go_grown⟩
def commE (s : St) (i : Nat) (x : Tx) (p : Int) : Int := if (s.serial.any fun n => clashB { x with fin := p } (St.tx ⟨s.all.set i { x with fin := p }, s.dead, s.now, s.serial⟩ n)) = true then 8 else 0
def noClash (s : St) (y : Tx) (k : Nat) : Prop := ∀ q, q < k → clashB y (s.tx (s.serial.getD q 0)) = false
theorem int_info : (Tryz.prog.info? 3).map (fun i => (i.zero, i.size, i.bytes)) = some (some (.int .i64 0), 1, 8) := by kernel_rfl
theorem get_set' {l : List Tx} {i : Nat} {x y : Tx} (h : l[i]? = some x) : (l.set i y)[i]? = some y := by
 have := (List.getElem?_eq_some_iff.1 h).1
 simp [this]
theorem any_ser {s : St} {y : Tx} {q : Nat} (h : q < s.serial.length) (hc : clashB y (s.tx (s.serial.getD q 0)) = true) {l : List Int} (hl : s.serial = l) : (l.any fun n => clashB y (s.tx n)) = true := by
 subst hl
 rw [List.any_eq_true]
 refine ⟨s.serial.getD q 0, ?_, hc⟩
 rw [List.getD_eq_getElem?_getD, List.getElem?_eq_getElem h]
 exact List.getElem_mem h
theorem no_ser {s : St} {y : Tx} {q : Nat} (h : q = s.serial.length) (hc : noClash s y q) {l : List Int} (hl : s.serial = l) : (l.any fun n => clashB y (s.tx n)) = false := by
 subst hl
 rw [List.any_eq_false]
 intro n hn
 obtain ⟨k, hk, rfl⟩ := List.mem_iff_getElem.1 hn
 have := hc k (by omega)
 rw [List.getD_eq_getElem?_getD, List.getElem?_eq_getElem hk] at this
 simpa using this
set_option maxRecDepth 100000 in
set_option maxHeartbeats 4000000 in
theorem comm_go {w : World} {B : Nat} {tag : Nat → Nat} {g : Nat} {s : St} {bs : List Nat} {va vs : Value} {cs : Array Value} (h : StAt w B tag g s bs va vs cs) (hB : B ≤ w.heap.size) {i b : Nat} {x : Tx} (hi : bs[i]? = some b) (hx : s.all[i]? = some x) {n : Nat} (ho : TxOk x n) (hok : StOk s n) (hn : n ≤ 1000) (ek ec ex et er em eq p : Int) (h4 : x.opn = false) (h2 : x.state = 2 ∨ x.asked = false) :
 Calls Tryz.prog 145 #[.pointer (some ⟨g, 0, none⟩), .pointer (some ⟨b, 0, none⟩), .agg #[.int .i64 ek, .int .i64 ec, .int .i64 ex, .int .i64 et, .int .i64 er, .int .i64 em, .int .i64 eq], .int .i64 p] w fun r w' =>
  StepOf w w' B g (commE s i x p) ⟨s.all.set i { x with fin := p, state := 3 }, s.dead, off s.now x.client false, s.serial ++ [ex]⟩ r := by
 obtain ⟨mb, A, c1, lb, c0, _, c2, c3, c4, _⟩ := (h.one hi hx).at
 have nb : ¬ b = w.heap.size := by omega
 have nb' : ¬ w.heap.size = b := by omega
 have hf2 : w.frozen? ⟨b, 2, none⟩ = false := by obtain ⟨_, _, h1, _⟩ := h.one hi hx; exact heap_free h1
 have lg : g < w.heap.size := lt_of_block h.1
 have ng : ¬ g = w.heap.size := by omega
 have nbg := (h.ne hi hx).1
 have c19 := heap_cell h.1 (j := 19) h.2.2.2.1
 obtain ⟨_, _, cps, _, ⟨Sl, hvs⟩, _, _, _⟩ := own1_cell h.2.2.2.2.2.2.2.2.2.2.1
 obtain ⟨m, hm⟩ : ∃ m, s.serial.length = m := ⟨_, rfl⟩
 have hm1 : m ≤ 1000 := by have := hok.slen; omega
 rw [hm] at hvs
 have HVS := Lib.hid hvs
 rw [hvs] at c19
 have HM := Lib.hid hm
 have HH := Lib.hid h
 have HI := Lib.hid hi
 have HX := Lib.hid hx
 have HTO := Lib.hid ho
 have HOK := Lib.hid hok
 have HNE := Lib.hid (h.ne hi hx)
 rw [h4] at c4
 obtain ⟨st, hst⟩ : ∃ st, x.state = st := ⟨_, rfl⟩
 obtain ⟨ak, has⟩ : ∃ ak, x.asked = ak := ⟨_, rfl⟩
 rw [hst] at c0 h2
 rw [has] at c3 h2
 clear h hi hx ho hok h4 hvs hm hst has
 go_enter Tryz.func145, Tryz.ntmps145
 by_cases hs : st = 2
 ·subst hs
  clear h2
  go_wp2
  generalize hw3 : (w.setCell ⟨b, 2, none⟩ (.int .i64 p)).alloc (.cells #[.int .i64 ek, .int .i64 ec, .int .i64 ex, .int .i64 et, .int .i64 er, .int .i64 em, .int .i64 eq] 44) = w3
  have hsw : (w.setCell ⟨b, 2, none⟩ (.int .i64 p)).heap.size = w.heap.size := size_set _ _ _
  have hS3 : StAt w3 B tag g ⟨s.all.set i { x with fin := p }, s.dead, s.now, s.serial⟩ bs va vs cs := by
   rw [← hw3]
   exact (HH.out.store (y := { x with fin := p }) HI.out HX.out 2 (.int .i64 p) (fun _ _ => rfl) rfl).below ((Below.refl _ _).alloc (Nat.le_refl _) _)
  have hb3 : Below B w w3 := by rw [← hw3]; exact ((Below.refl B w).setCell HNE.out.2.1 _).alloc (by rw [hsw]; exact hB) _
  have hs3 : w3.heap.size = w.heap.size + 1 := by rw [← hw3]; simp
  have he3 : w3.cell? ⟨w.heap.size, 2, none⟩ = some (.int .i64 ex) := heap_cell (cs := #[.int .i64 ek, .int .i64 ec, .int .i64 ex, .int .i64 et, .int .i64 er, .int .i64 em, .int .i64 eq]) (t := 44) (by rw [← hw3, heap_push, if_pos hsw.symm]) rfl
  clear hsw
  obtain ⟨s3, hs3e⟩ : ∃ s3, (⟨s.all.set i { x with fin := p }, s.dead, s.now, s.serial⟩ : St) = s3 := ⟨_, rfl⟩
  have HS3E := Lib.hid hs3e
  rw [hs3e] at hS3
  have hser3 : s3.serial = s.serial := by rw [← hs3e]
  have hlen3 : s3.all.length = s.all.length := by rw [← hs3e]; simp
  have HSER := Lib.hid hser3
  have HLEN := Lib.hid hlen3
  have HS3 := Lib.hid hS3
  have HB3 := Lib.hid hb3
  have HSZ := Lib.hid hs3
  have HE3 := Lib.hid he3
  clear hw3 hS3 hb3 hs3 he3 hs3e hser3 hlen3
  go_loopw [38] (fun k wr => ∃ q : Nat, q ≤ m ∧ k = .int .i64 q ∧ Below w3.heap.size w3 wr ∧ noClash s3 { x with fin := p } q) (fun k _ => m - (intOf k).toNat)
  case atStart => exact ⟨0, Nat.zero_le _, rfl, Below.refl _ _, fun q hq => absurd hq (Nat.not_lt_zero _)⟩
  case round =>
   obtain ⟨q, hq, rfl, hbr, hno⟩ := hrel
   have HNO := Lib.hid hno
   clear hno
   have hSr := HS3.out.below hbr
   by_cases hlt : q < m
   ·have hlt' : (q : Int) < m := by omega
    obtain ⟨_, gs, cp, hvs, _, _, _, hcell⟩ := own1_cell hSr.2.2.2.2.2.2.2.2.2.2.1
    have hml : s3.serial.length = m := by rw [HSER.out]; exact HM.out
    rw [hml] at hvs
    obtain ⟨hvs1, lgs⟩ := hvs (by omega)
    have hvs2 := HVS.out
    rw [hvs1] at hvs2
    obtain ⟨rfl, rfl⟩ : Sl = some ⟨gs, 0, none⟩ ∧ cps = cp := by
     simp at hvs2
     exact ⟨hvs2.1.symm, hvs2.2.symm⟩
    have hmem : s3.serial.getD q 0 ∈ s.serial := by
     rw [HSER.out, List.getD_eq_getElem?_getD, List.getElem?_eq_getElem (by have := HM.out; omega)]
     exact List.getElem_mem _
    have hrg := HOK.out.ser _ hmem
    obtain ⟨j, hj⟩ : ∃ j : Nat, s3.serial.getD q 0 = (j : Int) + 1 := ⟨(s3.serial.getD q 0 - 1).toNat, by omega⟩
    rw [hj] at hrg
    have c5 := hcell q (.int .i64 ((j : Int) + 1)) (by rw [numV_get (by omega), hj])
    obtain ⟨y, hy⟩ : ∃ y, s3.all[j]? = some y := ⟨_, List.getElem?_eq_getElem (by rw [HLEN.out]; omega)⟩
    have hlb : bs.length = s3.all.length := hSr.lens
    obtain ⟨bj, hbj⟩ : ∃ bj, bs[j]? = some bj := ⟨_, List.getElem?_eq_getElem (by rw [hlb, HLEN.out]; omega)⟩
    obtain ⟨_, ga, cpa, hva, _, _, _, hcella⟩ := own1_cell hSr.2.2.2.2.2.2.2.2.1
    obtain ⟨hva1, lga⟩ := hva (by rw [hlb, HLEN.out]; omega)
    have c6 := hcella j (.pointer (some ⟨bj, 0, none⟩)) (by unfold ptrV; rw [List.getElem?_map, hbj]; rfl)
    have c7 := heap_cell hSr.1 (j := 0) hSr.2.2.1
    rw [hva1] at c7
    obtain ⟨nl, hnl⟩ : ∃ nl, bs.length = nl := ⟨_, rfl⟩
    rw [hnl] at c7
    have hjn : (j : Int) < nl := by rw [← hnl, hlb, HLEN.out]; omega
    have hnl2 : nl ≤ 100000 := by have := HOK.out.len; rw [← hnl, hlb, HLEN.out]; omega
    have hlx : ({ x with fin := p } : Tx).got.length ≤ 1000 := by have := HTO.out.len; show x.got.length ≤ 1000; omega
    have hxy : s3.all[i]? = some { x with fin := p } := by rw [← HS3E.out]; exact get_set' HX.out
    have hly : y.got.length ≤ 1000 := by
     rw [← HS3E.out] at hy
     simp only [List.getElem?_set] at hy
     split at hy
     ·split at hy
      ·cases hy; exact hlx
      ·cases hy
     ·have := (HOK.out.tx j y hy).len; omega
    have hty : s3.tx (s3.serial.getD q 0) = y := by
     rw [hj]; unfold St.tx
     rw [List.getD_eq_getElem?_getD, show ((j : Int) + 1 - 1).toNat = j by omega, hy]; rfl
    have HC := Lib.hid (clash_st hSr HI.out hxy hbj hy hlx hly)
    have HTY := Lib.hid hty
    have HMM := Lib.hid hml
    have HSr := Lib.hid hSr
    clear hSr hcell hcella hvs hva hvs1 hva1 hvs2 hmem hj hy hbj hlb hnl hty hxy hly hlx hml
    cases hcl : clashB { x with fin := p } y with
    | true =>
     have HCL := Lib.hid hcl
     rw [hcl] at HC
     clear hcl
     go_wp2_with (go_at_call 152; refine HC.out.mono ?_; rintro e w5 ⟨rfl, hb5⟩)
     go_ret
     have h8 : commE s i x p = 8 := by
      unfold commE
      rw [HS3E.out, if_pos (any_ser (s := s3) (q := q) (by rw [HMM.out]; exact hlt) (by rw [HTY.out]; exact HCL.out) HSER.out)]
     rw [h8]
     exact ⟨rfl, HB3.out.trans ((hbr.trans (hb5.mono hbr.size)).mono (by have := HSZ.out; omega)), fun h0 => absurd h0 (by decide)⟩
    | false =>
     have HCL := Lib.hid hcl
     rw [hcl] at HC
     clear hcl
     go_wp2_with (go_at_call 152; refine HC.out.mono ?_; rintro e w5 ⟨rfl, hb5⟩)
     go_roundw
     case rel => exact ⟨q + 1, by omega, by go_num, hbr.trans (hb5.mono hbr.size), fun k hk => by
      rcases Nat.lt_or_ge k q with h1 | h1
      ·exact HNO.out k h1
      ·rw [show k = q by omega, HTY.out]; exact HCL.out⟩
     case measure => simp [intOf]; omega
   ·have hqm : q = m := by omega
    subst hqm
    have hge : ¬ (q : Int) < q := by omega
    have h0 : commE s i x p = 0 := by
     unfold commE
     rw [HS3E.out, no_ser (s := s3) (q := q) (by rw [HSER.out]; exact HM.out.symm) HNO.out HSER.out]; rfl
    have H0 := Lib.hid h0
    clear h0
    go_wp2_with fail
    have hvc := heap_cell hSr.1 (j := 19) hSr.2.2.2.1
    rw [HVS.out] at hvc
    have hgB := HH.out.gB
    have hvg : Value.ownBlock (.slice Sl q cps) ≠ some g := fun e => by
     have e1 := HH.out.2.2.2.2.2.2.2.2.2.2.2.1 g (by rw [HVS.out]; exact e)
     have e2 := HH.out.gtag
     omega
    have lgr : g < wr.heap.size := lt_of_block hSr.1
    have sz3 := HSZ.out
    have szr := hbr.size
    have hvw : Value.ownBlock (.slice Sl q cps) ≠ some w.heap.size := fun e => by
     have := (HH.out.2.2.2.2.2.2.2.2.2.2.1.lt w.heap.size (by rw [HVS.out]; exact e)).2
     omega
    have hown : wr.ownsRow B 3 1 (.slice Sl q cps) q (numV .i64 s.serial) := by
     have := hSr.2.2.2.2.2.2.2.2.2.2.1
     rw [HSER.out, HM.out, HVS.out] at this
     exact this
    have G2 := cell_keep hbr HE3.out
    have lwr : w.heap.size < wr.heap.size := by omega
    have ngr : ¬ g = wr.heap.size := by omega
    have nwr : ¬ w.heap.size = wr.heap.size := by omega
    have hBr : B ≤ wr.heap.size := by omega
    obtain ⟨i0, hi0, hz0, hz1, hz2⟩ := info_parts int_info
    have HVG := Lib.hid hvg
    have HVW := Lib.hid hvw
    have HOW := Lib.hid hown
    have HSR := Lib.hid hSr
    have HGB := Lib.hid hSr.1
    have HBr : Hid (Below B w wr) := Lib.hid (HB3.out.trans (hbr.mono (by omega)))
    clear hvg hvw hown hSr hge hbr HNO szr sz3
    refine wp_region_N (S := (fun w' => w'.cell? ⟨w.heap.size, 2, none⟩ = some (.int .i64 ex) ∧ w'.cell? ⟨g, 19, none⟩ = some (.slice Sl q cps))) (fun i => !(i == 11)) (by kernel_rfl) ?_ (fun hHeld => ?_)
    ·(try dsimp only)
     first
      | (refine ⟨?_, ?_⟩ <;> assumption)
      | (refine ⟨cell_keep ?_ G2, cell_keep ?_ hvc⟩ <;> (go_grown; done))
    refine wpAnyN_take [9, 10, 11] (i := 0) (v := ?_) rfl (by kernel_rfl) (by kernel_rfl) (by kernel_rfl) (by kernel_rfl) (by kernel_rfl) (fun _ _ _ h => h) (Or.inl ⟨by first | kernel_rfl | rfl, ?_⟩) (by assumption) ?_
    rotate_left
    focus
     intro w hSw
     (try dsimp only at hSw)
     go_simp
     try with_reducible rfl
    (try change wpAnyN _ _ _ _ _ _ _ _ (Act.put _ (some 54) _) _)
    try (unfold Act.put; dsimp only)
    refine wpAnyN_take [2, 3, 4, 8, 9, 10, 11] (i := 1) (v := ?_) rfl (by kernel_rfl) (by kernel_rfl) (by kernel_rfl) (by kernel_rfl) (by kernel_rfl) (fun _ _ _ h => h) (Or.inl ⟨by first | kernel_rfl | rfl, ?_⟩) (by assumption) ?_
    rotate_left
    focus
     intro w hSw
     (try dsimp only at hSw)
     go_simp
     try with_reducible rfl
    (try change wpAnyN _ _ _ _ _ _ _ _ (Act.put _ (some 55) _) _)
    try (unfold Act.put; dsimp only)
    refine wpAnyN_take [3, 4, 8, 9, 10, 11] (i := 2) (v := ?_) rfl (by kernel_rfl) (by kernel_rfl) (by kernel_rfl) (by kernel_rfl) (by kernel_rfl) (fun _ _ _ h => h) (Or.inl ⟨by first | kernel_rfl | rfl, ?_⟩) (by assumption) ?_
    rotate_left
    focus
     intro w hSw
     (try dsimp only at hSw)
     go_simp
     try with_reducible rfl
    (try change wpAnyN _ _ _ _ _ _ _ _ (Act.put _ (some 56) _) _)
    try (unfold Act.put; dsimp only)
    refine wpAnyN_take [4, 8, 9, 10, 11] (i := 3) (v := ?_) rfl (by kernel_rfl) (by kernel_rfl) (by kernel_rfl) (by kernel_rfl) (by kernel_rfl) (fun _ _ _ h => h) (Or.inl ⟨by first | kernel_rfl | rfl, ?_⟩) (by assumption) ?_
    rotate_left
    focus
     intro w hSw
     (try dsimp only at hSw)
     go_simp
     try with_reducible rfl
    (try change wpAnyN _ _ _ _ _ _ _ _ (Act.put _ (some 57) _) _)
    try (unfold Act.put; dsimp only)
    refine wpAnyN_take [8, 9, 10, 11] (i := 4) (v := ?_) rfl (by kernel_rfl) (by kernel_rfl) (by kernel_rfl) (by kernel_rfl) (by kernel_rfl) (fun _ _ _ h => h) (Or.inl ⟨by first | kernel_rfl | rfl, ?_⟩) (by assumption) ?_
    rotate_left
    focus
     intro w hSw
     (try dsimp only at hSw)
     go_simp
     try with_reducible rfl
    (try change wpAnyN _ _ _ _ _ _ _ _ (Act.put _ (some 58) _) _)
    try (unfold Act.put; dsimp only)
    refine wpAnyN_take [6, 7, 8, 9, 10, 11] (i := 5) (v := ?_) rfl (by kernel_rfl) (by kernel_rfl) (by kernel_rfl) (by kernel_rfl) (by kernel_rfl) (fun _ _ _ h => h) (Or.inl ⟨by first | kernel_rfl | rfl, ?_⟩) (by assumption) ?_
    rotate_left
    focus
     intro w hSw
     (try dsimp only at hSw)
     go_simp
     try with_reducible rfl
    (try change wpAnyN _ _ _ _ _ _ _ _ (Act.put _ (some 59) _) _)
    try (unfold Act.put; dsimp only)
    refine wpAnyN_take [7, 8, 9, 10, 11] (i := 6) (v := ?_) rfl (by kernel_rfl) (by kernel_rfl) (by kernel_rfl) (by kernel_rfl) (by kernel_rfl) (fun _ _ _ h => h) (Or.inl ⟨by first | kernel_rfl | rfl, ?_⟩) (by assumption) ?_
    rotate_left
    focus
     intro w hSw
     (try dsimp only at hSw)
     go_simp
     try with_reducible rfl
    (try change wpAnyN _ _ _ _ _ _ _ _ (Act.put _ (some 60) _) _)
    try (unfold Act.put; dsimp only)
    refine wpAnyN_ready (rs := [7]) (by kernel_rfl) (by simp) ?_
    refine AllReadyN.cons rfl (fun K hK => ?_) ?_
    ·go_simp
     refine hK.out _ _ ?_ (fun hHeld => ?_)
     ·(try dsimp only)
      first
       | (refine ⟨?_, ?_⟩ <;> assumption)
       | (refine ⟨cell_keep ?_ G2, cell_keep ?_ hvc⟩ <;> (go_grown; done))
     clear hK K
     (try change wpAnyN _ _ _ _ _ _ _ _ (Act.put _ (some 61) _) _)
     try (unfold Act.put; dsimp only)
     refine wpAnyN_ready (rs := [8]) (by kernel_rfl) (by simp) ?_
     refine AllReadyN.cons rfl (fun K hK => ?_) ?_
     ·refine step_append_lies _ (by rfl) _ _ _ (by rfl) B 3 i0 _ 1 8 Tryz.underlying127 hi0 hz0 hz1 hz2 rfl (by decide) (.slice Sl q cps) q (numV .i64 s.serial) (by rfl) (own_below HOW.out (by go_grown)) _ 1 1 [.int .i64 ex] (by rfl) (by rfl) (World.news_of_block (cs := #[.int .i64 ex]) (t := 3) (fr := (0, 0)) (by (repeat (first | rw [heap_drew] | rw [heap_push])); simp)) (by simp [Value.oneCell']) (by decide) (by unfold maxLen; omega) (by omega) (by simp <;> omega) _ rfl ?_
      intro gg cap w7 hown7 hgrow hat hlt7
      have h7 := append_keep hgrow (by go_grown) HGB.out HVG.out
      have y2 := append_cell hgrow (by go_grown) G2 HVW.out
      have k7 := heap_cell h7 (j := 19) (u := .slice Sl q cps) (by rw [← HVS.out]; exact HSR.out.2.2.2.1)
      have kf7 := heap_free h7 (j := 19)
      have HBW7 : Hid (Below B w w7) := Lib.hid (append_below hgrow (by go_grown) HBr.out (by omega) (fun k hk => (HOW.out.lt k hk).1))
      have HST : Hid (∃ tag' cs', StAt (w7.setCell ⟨g, 19, none⟩ (.slice (some ⟨gg, 0, none⟩) (q + 1) cap)) B tag' g ⟨s3.all, s3.dead, s3.now, s.serial ++ [ex]⟩ bs va (.slice (some ⟨gg, 0, none⟩) (q + 1) cap) cs') := Lib.hid (by
       refine StAt.setSer (HSR.out.below (show Below wr.heap.size wr (wr.alloc (.cells #[.int .i64 ex] 3)).drew by go_grown)) (by rw [HVS.out]; exact hgrow) (by rw [List.length_append, HM.out]; simpa [numV] using hown7) ?_
       intro k hk
       rw [HVS.out]
       simp [Value.ownBlock] at hk
       subst hk
       rcases hat with h | h
       ·exact .inl h
       ·right; rw [h]; exact Nat.le_refl _)
      have H7 := Lib.hid h7
      clear h7 hgrow hown7
      refine hK.out _ _ ?_ (fun hHeld => ?_)
      ·(try dsimp only)
       first
        | (refine ⟨?_, ?_⟩ <;> assumption)
        | (refine ⟨cell_keep ?_ G2, cell_keep ?_ hvc⟩ <;> (go_grown; done))
      clear hK K
      (try change wpAnyN _ _ _ _ _ _ _ _ (Act.put _ (some 62) _) _)
      try (unfold Act.put; dsimp only)
      refine wpAnyN_take [10, 11] (i := 9) (v := ?_) rfl (by kernel_rfl) (by kernel_rfl) (by kernel_rfl) (by kernel_rfl) (by kernel_rfl) (fun _ _ _ h => h) (Or.inl ⟨by first | kernel_rfl | rfl, ?_⟩) (by assumption) ?_
      rotate_left
      focus
       intro w hSw
       (try dsimp only at hSw)
       go_simp
       try with_reducible rfl
      (try change wpAnyN _ _ _ _ _ _ _ _ (Act.put _ (some 63) _) _)
      try (unfold Act.put; dsimp only)
      refine wpAnyN_take [11] (i := 10) (v := ?_) rfl (by kernel_rfl) (by kernel_rfl) (by kernel_rfl) (by kernel_rfl) (by kernel_rfl) (fun _ _ _ h => h) (Or.inl ⟨by first | kernel_rfl | rfl, ?_⟩) (by assumption) ?_
      rotate_left
      focus
       intro w hSw
       (try dsimp only at hSw)
       go_simp
       try with_reducible rfl
      (try change wpAnyN _ _ _ _ _ _ _ _ (Act.put _ (some 64) _) _)
      try (unfold Act.put; dsimp only)
      refine wpAnyN_ready (rs := [11]) (by kernel_rfl) (by simp) ?_
      refine AllReadyN.last rfl rfl (fun K hK => ?_) ?_
      ·go_simp
       refine hK.out _ _ ?_
       clear hK K
       try (unfold Act.put; dsimp only)
       refine wpAnyN_done (by kernel_rfl) ?_ _
       obtain ⟨tag', cs', hF⟩ := HST.out
       have hxF : s3.all[i]? = some { x with fin := p } := by rw [← HS3E.out]; exact get_set' HX.out
       have HO := Lib.hid (over_st hF HI.out hxF (by exact HTO.out.client))
       have HBF : Hid (Below B w (w7.setCell ⟨g, 19, none⟩ (.slice (some ⟨gg, 0, none⟩) (q + 1) cap))) := Lib.hid (HBW7.out.setCell hgB _)
       clear hF hxF
       go_wp2_with (go_at_call 146; refine HO.out.mono ?_; rintro e w9 ⟨rfl, hS9, hb9⟩)
       go_ret
       rw [H0.out]
       refine step_ok (tag := tag') (HBF.out.trans hb9) rfl ?_
       rw [← HS3E.out] at hS9
       simpa using hS9
      exact AllReadyN.nil
     exact AllReadyN.nil
    exact AllReadyN.nil
 ·have hak : ak = false := by rcases h2 with h | h; exact absurd h hs; exact h
  subst hak
  have hsb : (st != 2) = true := by simp; omega
  clear h2
  go_wp2
  generalize hw3 : (w.setCell ⟨b, 2, none⟩ (.int .i64 p)).alloc (.cells #[.int .i64 ek, .int .i64 ec, .int .i64 ex, .int .i64 et, .int .i64 er, .int .i64 em, .int .i64 eq] 44) = w3
  have hsw : (w.setCell ⟨b, 2, none⟩ (.int .i64 p)).heap.size = w.heap.size := size_set _ _ _
  have hS3 : StAt w3 B tag g ⟨s.all.set i { x with fin := p }, s.dead, s.now, s.serial⟩ bs va vs cs := by
   rw [← hw3]
   exact (HH.out.store (y := { x with fin := p }) HI.out HX.out 2 (.int .i64 p) (fun _ _ => rfl) rfl).below ((Below.refl _ _).alloc (Nat.le_refl _) _)
  have hb3 : Below B w w3 := by rw [← hw3]; exact ((Below.refl B w).setCell HNE.out.2.1 _).alloc (by rw [hsw]; exact hB) _
  have hs3 : w3.heap.size = w.heap.size + 1 := by rw [← hw3]; simp
  have he3 : w3.cell? ⟨w.heap.size, 2, none⟩ = some (.int .i64 ex) := heap_cell (cs := #[.int .i64 ek, .int .i64 ec, .int .i64 ex, .int .i64 et, .int .i64 er, .int .i64 em, .int .i64 eq]) (t := 44) (by rw [← hw3, heap_push, if_pos hsw.symm]) rfl
  clear hsw
  obtain ⟨s3, hs3e⟩ : ∃ s3, (⟨s.all.set i { x with fin := p }, s.dead, s.now, s.serial⟩ : St) = s3 := ⟨_, rfl⟩
  have HS3E := Lib.hid hs3e
  rw [hs3e] at hS3
  have hser3 : s3.serial = s.serial := by rw [← hs3e]
  have hlen3 : s3.all.length = s.all.length := by rw [← hs3e]; simp
  have HSER := Lib.hid hser3
  have HLEN := Lib.hid hlen3
  have HS3 := Lib.hid hS3
  have HB3 := Lib.hid hb3
  have HSZ := Lib.hid hs3
  have HE3 := Lib.hid he3
  clear hw3 hS3 hb3 hs3 he3 hs3e hser3 hlen3
  go_loopw [38] (fun k wr => ∃ q : Nat, q ≤ m ∧ k = .int .i64 q ∧ Below w3.heap.size w3 wr ∧ noClash s3 { x with fin := p } q) (fun k _ => m - (intOf k).toNat)
  case atStart => exact ⟨0, Nat.zero_le _, rfl, Below.refl _ _, fun q hq => absurd hq (Nat.not_lt_zero _)⟩
  case round =>
   obtain ⟨q, hq, rfl, hbr, hno⟩ := hrel
   have HNO := Lib.hid hno
   clear hno
   have hSr := HS3.out.below hbr
   by_cases hlt : q < m
   ·have hlt' : (q : Int) < m := by omega
    obtain ⟨_, gs, cp, hvs, _, _, _, hcell⟩ := own1_cell hSr.2.2.2.2.2.2.2.2.2.2.1
    have hml : s3.serial.length = m := by rw [HSER.out]; exact HM.out
    rw [hml] at hvs
    obtain ⟨hvs1, lgs⟩ := hvs (by omega)
    have hvs2 := HVS.out
    rw [hvs1] at hvs2
    obtain ⟨rfl, rfl⟩ : Sl = some ⟨gs, 0, none⟩ ∧ cps = cp := by
     simp at hvs2
     exact ⟨hvs2.1.symm, hvs2.2.symm⟩
    have hmem : s3.serial.getD q 0 ∈ s.serial := by
     rw [HSER.out, List.getD_eq_getElem?_getD, List.getElem?_eq_getElem (by have := HM.out; omega)]
     exact List.getElem_mem _
    have hrg := HOK.out.ser _ hmem
    obtain ⟨j, hj⟩ : ∃ j : Nat, s3.serial.getD q 0 = (j : Int) + 1 := ⟨(s3.serial.getD q 0 - 1).toNat, by omega⟩
    rw [hj] at hrg
    have c5 := hcell q (.int .i64 ((j : Int) + 1)) (by rw [numV_get (by omega), hj])
    obtain ⟨y, hy⟩ : ∃ y, s3.all[j]? = some y := ⟨_, List.getElem?_eq_getElem (by rw [HLEN.out]; omega)⟩
    have hlb : bs.length = s3.all.length := hSr.lens
    obtain ⟨bj, hbj⟩ : ∃ bj, bs[j]? = some bj := ⟨_, List.getElem?_eq_getElem (by rw [hlb, HLEN.out]; omega)⟩
    obtain ⟨_, ga, cpa, hva, _, _, _, hcella⟩ := own1_cell hSr.2.2.2.2.2.2.2.2.1
    obtain ⟨hva1, lga⟩ := hva (by rw [hlb, HLEN.out]; omega)
    have c6 := hcella j (.pointer (some ⟨bj, 0, none⟩)) (by unfold ptrV; rw [List.getElem?_map, hbj]; rfl)
    have c7 := heap_cell hSr.1 (j := 0) hSr.2.2.1
    rw [hva1] at c7
    obtain ⟨nl, hnl⟩ : ∃ nl, bs.length = nl := ⟨_, rfl⟩
    rw [hnl] at c7
    have hjn : (j : Int) < nl := by rw [← hnl, hlb, HLEN.out]; omega
    have hnl2 : nl ≤ 100000 := by have := HOK.out.len; rw [← hnl, hlb, HLEN.out]; omega
    have hlx : ({ x with fin := p } : Tx).got.length ≤ 1000 := by have := HTO.out.len; show x.got.length ≤ 1000; omega
    have hxy : s3.all[i]? = some { x with fin := p } := by rw [← HS3E.out]; exact get_set' HX.out
    have hly : y.got.length ≤ 1000 := by
     rw [← HS3E.out] at hy
     simp only [List.getElem?_set] at hy
     split at hy
     ·split at hy
      ·cases hy; exact hlx
      ·cases hy
     ·have := (HOK.out.tx j y hy).len; omega
    have hty : s3.tx (s3.serial.getD q 0) = y := by
     rw [hj]; unfold St.tx
     rw [List.getD_eq_getElem?_getD, show ((j : Int) + 1 - 1).toNat = j by omega, hy]; rfl
    have HC := Lib.hid (clash_st hSr HI.out hxy hbj hy hlx hly)
    have HTY := Lib.hid hty
    have HMM := Lib.hid hml
    have HSr := Lib.hid hSr
    clear hSr hcell hcella hvs hva hvs1 hva1 hvs2 hmem hj hy hbj hlb hnl hty hxy hly hlx hml
    cases hcl : clashB { x with fin := p } y with
    | true =>
     have HCL := Lib.hid hcl
     rw [hcl] at HC
     clear hcl
     go_wp2_with (go_at_call 152; refine HC.out.mono ?_; rintro e w5 ⟨rfl, hb5⟩)
     go_ret
     have h8 : commE s i x p = 8 := by
      unfold commE
      rw [HS3E.out, if_pos (any_ser (s := s3) (q := q) (by rw [HMM.out]; exact hlt) (by rw [HTY.out]; exact HCL.out) HSER.out)]
     rw [h8]
     exact ⟨rfl, HB3.out.trans ((hbr.trans (hb5.mono hbr.size)).mono (by have := HSZ.out; omega)), fun h0 => absurd h0 (by decide)⟩
    | false =>
     have HCL := Lib.hid hcl
     rw [hcl] at HC
     clear hcl
     go_wp2_with (go_at_call 152; refine HC.out.mono ?_; rintro e w5 ⟨rfl, hb5⟩)
     go_roundw
     case rel => exact ⟨q + 1, by omega, by go_num, hbr.trans (hb5.mono hbr.size), fun k hk => by
      rcases Nat.lt_or_ge k q with h1 | h1
      ·exact HNO.out k h1
      ·rw [show k = q by omega, HTY.out]; exact HCL.out⟩
     case measure => simp [intOf]; omega
   ·have hqm : q = m := by omega
    subst hqm
    have hge : ¬ (q : Int) < q := by omega
    have h0 : commE s i x p = 0 := by
     unfold commE
     rw [HS3E.out, no_ser (s := s3) (q := q) (by rw [HSER.out]; exact HM.out.symm) HNO.out HSER.out]; rfl
    have H0 := Lib.hid h0
    clear h0
    go_wp2_with fail
    have hvc := heap_cell hSr.1 (j := 19) hSr.2.2.2.1
    rw [HVS.out] at hvc
    have hgB := HH.out.gB
    have hvg : Value.ownBlock (.slice Sl q cps) ≠ some g := fun e => by
     have e1 := HH.out.2.2.2.2.2.2.2.2.2.2.2.1 g (by rw [HVS.out]; exact e)
     have e2 := HH.out.gtag
     omega
    have lgr : g < wr.heap.size := lt_of_block hSr.1
    have sz3 := HSZ.out
    have szr := hbr.size
    have hvw : Value.ownBlock (.slice Sl q cps) ≠ some w.heap.size := fun e => by
     have := (HH.out.2.2.2.2.2.2.2.2.2.2.1.lt w.heap.size (by rw [HVS.out]; exact e)).2
     omega
    have hown : wr.ownsRow B 3 1 (.slice Sl q cps) q (numV .i64 s.serial) := by
     have := hSr.2.2.2.2.2.2.2.2.2.2.1
     rw [HSER.out, HM.out, HVS.out] at this
     exact this
    have G2 := cell_keep hbr HE3.out
    have lwr : w.heap.size < wr.heap.size := by omega
    have ngr : ¬ g = wr.heap.size := by omega
    have nwr : ¬ w.heap.size = wr.heap.size := by omega
    have hBr : B ≤ wr.heap.size := by omega
    obtain ⟨i0, hi0, hz0, hz1, hz2⟩ := info_parts int_info
    have HVG := Lib.hid hvg
    have HVW := Lib.hid hvw
    have HOW := Lib.hid hown
    have HSR := Lib.hid hSr
    have HGB := Lib.hid hSr.1
    have HBr : Hid (Below B w wr) := Lib.hid (HB3.out.trans (hbr.mono (by omega)))
    clear hvg hvw hown hSr hge hbr HNO szr sz3
    refine wp_region_N (S := (fun w' => w'.cell? ⟨w.heap.size, 2, none⟩ = some (.int .i64 ex) ∧ w'.cell? ⟨g, 19, none⟩ = some (.slice Sl q cps))) (fun i => !(i == 11)) (by kernel_rfl) ?_ (fun hHeld => ?_)
    ·(try dsimp only)
     first
      | (refine ⟨?_, ?_⟩ <;> assumption)
      | (refine ⟨cell_keep ?_ G2, cell_keep ?_ hvc⟩ <;> (go_grown; done))
    refine wpAnyN_take [9, 10, 11] (i := 0) (v := ?_) rfl (by kernel_rfl) (by kernel_rfl) (by kernel_rfl) (by kernel_rfl) (by kernel_rfl) (fun _ _ _ h => h) (Or.inl ⟨by first | kernel_rfl | rfl, ?_⟩) (by assumption) ?_
    rotate_left
    focus
     intro w hSw
     (try dsimp only at hSw)
     go_simp
     try with_reducible rfl
    (try change wpAnyN _ _ _ _ _ _ _ _ (Act.put _ (some 54) _) _)
    try (unfold Act.put; dsimp only)
    refine wpAnyN_take [2, 3, 4, 8, 9, 10, 11] (i := 1) (v := ?_) rfl (by kernel_rfl) (by kernel_rfl) (by kernel_rfl) (by kernel_rfl) (by kernel_rfl) (fun _ _ _ h => h) (Or.inl ⟨by first | kernel_rfl | rfl, ?_⟩) (by assumption) ?_
    rotate_left
    focus
     intro w hSw
     (try dsimp only at hSw)
     go_simp
     try with_reducible rfl
    (try change wpAnyN _ _ _ _ _ _ _ _ (Act.put _ (some 55) _) _)
    try (unfold Act.put; dsimp only)
    refine wpAnyN_take [3, 4, 8, 9, 10, 11] (i := 2) (v := ?_) rfl (by kernel_rfl) (by kernel_rfl) (by kernel_rfl) (by kernel_rfl) (by kernel_rfl) (fun _ _ _ h => h) (Or.inl ⟨by first | kernel_rfl | rfl, ?_⟩) (by assumption) ?_
    rotate_left
    focus
     intro w hSw
     (try dsimp only at hSw)
     go_simp
     try with_reducible rfl
    (try change wpAnyN _ _ _ _ _ _ _ _ (Act.put _ (some 56) _) _)
    try (unfold Act.put; dsimp only)
    refine wpAnyN_take [4, 8, 9, 10, 11] (i := 3) (v := ?_) rfl (by kernel_rfl) (by kernel_rfl) (by kernel_rfl) (by kernel_rfl) (by kernel_rfl) (fun _ _ _ h => h) (Or.inl ⟨by first | kernel_rfl | rfl, ?_⟩) (by assumption) ?_
    rotate_left
    focus
     intro w hSw
     (try dsimp only at hSw)
     go_simp
     try with_reducible rfl
    (try change wpAnyN _ _ _ _ _ _ _ _ (Act.put _ (some 57) _) _)
    try (unfold Act.put; dsimp only)
    refine wpAnyN_take [8, 9, 10, 11] (i := 4) (v := ?_) rfl (by kernel_rfl) (by kernel_rfl) (by kernel_rfl) (by kernel_rfl) (by kernel_rfl) (fun _ _ _ h => h) (Or.inl ⟨by first | kernel_rfl | rfl, ?_⟩) (by assumption) ?_
    rotate_left
    focus
     intro w hSw
     (try dsimp only at hSw)
     go_simp
     try with_reducible rfl
    (try change wpAnyN _ _ _ _ _ _ _ _ (Act.put _ (some 58) _) _)
    try (unfold Act.put; dsimp only)
    refine wpAnyN_take [6, 7, 8, 9, 10, 11] (i := 5) (v := ?_) rfl (by kernel_rfl) (by kernel_rfl) (by kernel_rfl) (by kernel_rfl) (by kernel_rfl) (fun _ _ _ h => h) (Or.inl ⟨by first | kernel_rfl | rfl, ?_⟩) (by assumption) ?_
    rotate_left
    focus
     intro w hSw
     (try dsimp only at hSw)
     go_simp
     try with_reducible rfl
    (try change wpAnyN _ _ _ _ _ _ _ _ (Act.put _ (some 59) _) _)
    try (unfold Act.put; dsimp only)
    refine wpAnyN_take [7, 8, 9, 10, 11] (i := 6) (v := ?_) rfl (by kernel_rfl) (by kernel_rfl) (by kernel_rfl) (by kernel_rfl) (by kernel_rfl) (fun _ _ _ h => h) (Or.inl ⟨by first | kernel_rfl | rfl, ?_⟩) (by assumption) ?_
    rotate_left
    focus
     intro w hSw
     (try dsimp only at hSw)
     go_simp
     try with_reducible rfl
    (try change wpAnyN _ _ _ _ _ _ _ _ (Act.put _ (some 60) _) _)
    try (unfold Act.put; dsimp only)
    refine wpAnyN_ready (rs := [7]) (by kernel_rfl) (by simp) ?_
    refine AllReadyN.cons rfl (fun K hK => ?_) ?_
    ·go_simp
     refine hK.out _ _ ?_ (fun hHeld => ?_)
     ·(try dsimp only)
      first
       | (refine ⟨?_, ?_⟩ <;> assumption)
       | (refine ⟨cell_keep ?_ G2, cell_keep ?_ hvc⟩ <;> (go_grown; done))
     clear hK K
     (try change wpAnyN _ _ _ _ _ _ _ _ (Act.put _ (some 61) _) _)
     try (unfold Act.put; dsimp only)
     refine wpAnyN_ready (rs := [8]) (by kernel_rfl) (by simp) ?_
     refine AllReadyN.cons rfl (fun K hK => ?_) ?_
     ·refine step_append_lies _ (by rfl) _ _ _ (by rfl) B 3 i0 _ 1 8 Tryz.underlying127 hi0 hz0 hz1 hz2 rfl (by decide) (.slice Sl q cps) q (numV .i64 s.serial) (by rfl) (own_below HOW.out (by go_grown)) _ 1 1 [.int .i64 ex] (by rfl) (by rfl) (World.news_of_block (cs := #[.int .i64 ex]) (t := 3) (fr := (0, 0)) (by (repeat (first | rw [heap_drew] | rw [heap_push])); simp)) (by simp [Value.oneCell']) (by decide) (by unfold maxLen; omega) (by omega) (by simp <;> omega) _ rfl ?_
      intro gg cap w7 hown7 hgrow hat hlt7
      have h7 := append_keep hgrow (by go_grown) HGB.out HVG.out
      have y2 := append_cell hgrow (by go_grown) G2 HVW.out
      have k7 := heap_cell h7 (j := 19) (u := .slice Sl q cps) (by rw [← HVS.out]; exact HSR.out.2.2.2.1)
      have kf7 := heap_free h7 (j := 19)
      have HBW7 : Hid (Below B w w7) := Lib.hid (append_below hgrow (by go_grown) HBr.out (by omega) (fun k hk => (HOW.out.lt k hk).1))
      have HST : Hid (∃ tag' cs', StAt (w7.setCell ⟨g, 19, none⟩ (.slice (some ⟨gg, 0, none⟩) (q + 1) cap)) B tag' g ⟨s3.all, s3.dead, s3.now, s.serial ++ [ex]⟩ bs va (.slice (some ⟨gg, 0, none⟩) (q + 1) cap) cs') := Lib.hid (by
       refine StAt.setSer (HSR.out.below (show Below wr.heap.size wr (wr.alloc (.cells #[.int .i64 ex] 3)).drew by go_grown)) (by rw [HVS.out]; exact hgrow) (by rw [List.length_append, HM.out]; simpa [numV] using hown7) ?_
       intro k hk
       rw [HVS.out]
       simp [Value.ownBlock] at hk
       subst hk
       rcases hat with h | h
       ·exact .inl h
       ·right; rw [h]; exact Nat.le_refl _)
      have H7 := Lib.hid h7
      clear h7 hgrow hown7
      refine hK.out _ _ ?_ (fun hHeld => ?_)
      ·(try dsimp only)
       first
        | (refine ⟨?_, ?_⟩ <;> assumption)
        | (refine ⟨cell_keep ?_ G2, cell_keep ?_ hvc⟩ <;> (go_grown; done))
      clear hK K
      (try change wpAnyN _ _ _ _ _ _ _ _ (Act.put _ (some 62) _) _)
      try (unfold Act.put; dsimp only)
      refine wpAnyN_take [10, 11] (i := 9) (v := ?_) rfl (by kernel_rfl) (by kernel_rfl) (by kernel_rfl) (by kernel_rfl) (by kernel_rfl) (fun _ _ _ h => h) (Or.inl ⟨by first | kernel_rfl | rfl, ?_⟩) (by assumption) ?_
      rotate_left
      focus
       intro w hSw
       (try dsimp only at hSw)
       go_simp
       try with_reducible rfl
      (try change wpAnyN _ _ _ _ _ _ _ _ (Act.put _ (some 63) _) _)
      try (unfold Act.put; dsimp only)
      refine wpAnyN_take [11] (i := 10) (v := ?_) rfl (by kernel_rfl) (by kernel_rfl) (by kernel_rfl) (by kernel_rfl) (by kernel_rfl) (fun _ _ _ h => h) (Or.inl ⟨by first | kernel_rfl | rfl, ?_⟩) (by assumption) ?_
      rotate_left
      focus
       intro w hSw
       (try dsimp only at hSw)
       go_simp
       try with_reducible rfl
      (try change wpAnyN _ _ _ _ _ _ _ _ (Act.put _ (some 64) _) _)
      try (unfold Act.put; dsimp only)
      refine wpAnyN_ready (rs := [11]) (by kernel_rfl) (by simp) ?_
      refine AllReadyN.last rfl rfl (fun K hK => ?_) ?_
      ·go_simp
       refine hK.out _ _ ?_
       clear hK K
       try (unfold Act.put; dsimp only)
       refine wpAnyN_done (by kernel_rfl) ?_ _
       obtain ⟨tag', cs', hF⟩ := HST.out
       have hxF : s3.all[i]? = some { x with fin := p } := by rw [← HS3E.out]; exact get_set' HX.out
       have HO := Lib.hid (over_st hF HI.out hxF (by exact HTO.out.client))
       have HBF : Hid (Below B w (w7.setCell ⟨g, 19, none⟩ (.slice (some ⟨gg, 0, none⟩) (q + 1) cap))) := Lib.hid (HBW7.out.setCell hgB _)
       clear hF hxF
       go_wp2_with (go_at_call 146; refine HO.out.mono ?_; rintro e w9 ⟨rfl, hS9, hb9⟩)
       go_ret
       rw [H0.out]
       refine step_ok (tag := tag') (HBF.out.trans hb9) rfl ?_
       rw [← HS3E.out] at hS9
       simpa using hS9
      exact AllReadyN.nil
     exact AllReadyN.nil
    exact AllReadyN.nil
end Go.Proofs.YtjpjlfjaapfnkaaGreatDoor.C20

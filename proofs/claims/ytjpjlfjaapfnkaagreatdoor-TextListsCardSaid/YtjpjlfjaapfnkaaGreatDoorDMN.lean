/-
  text.Entry; text.Event. No conditions beyond those that each theorem states.
-/
import Derived.Test.YtjpjlfjaapfnkaaGreatDoorDMM
set_option linter.unusedVariables false
set_option linter.unusedSimpArgs false
namespace Go.Proofs.YtjpjlfjaapfnkaaGreatDoor
open Go.ChangeShapes Go.WideShapes Go.ChangeAt Go.RowKit
set_option maxRecDepth 100000 in
set_option maxHeartbeats 4000000 in
theorem entry_0  (w : World) (hT : TxW w) (hf : entB 0 0 0 0 0 0 = true) :
 Calls Tryz.prog 10 #[.agg #[.int .i64 0, .int .i64 0, .int .i64 0, .int .i64 0, .int .i64 0, .int .i64 0]] w fun e w' => e = .returned (.tuple #[.string (bsA (jnL 32 [entName 0])), .nilIface]) ∧ Below w.heap.size w w' := by
 have hbA : Below w.heap.size w (w.alloc (.cells #[.int .i64 0, .int .i64 0, .int .i64 0, .int .i64 0, .int .i64 0, .int .i64 0] 33)) := (Below.refl _ _).alloc (Nat.le_refl _) _
 have hok := entok_any 0 0 0 0 0 0 (w.alloc (.cells #[.int .i64 0, .int .i64 0, .int .i64 0, .int .i64 0, .int .i64 0, .int .i64 0] 33))
 rw [hf] at hok
 have HF := Lib.hid hok
 have HTA := Lib.hid (hT.below hbA)
 have HBA := Lib.hid hbA
 clear hT hf hbA hok
 go_enter Tryz.func10, Tryz.ntmps10
 go_wp2_with fail
 refine HF.out.mono ?_
 rintro e w4 ⟨rfl, hb4⟩
 have HT4 := Lib.hid (HTA.out.below hb4)
 have HB4 := Lib.hid (HBA.out.trans (hb4.mono HBA.out.size))
 have HG4 := Lib.hid (show w.heap.size < w4.heap.size from Nat.lt_of_lt_of_le (by simp) hb4.size)
 have d0 := cell_keep hb4 (b := w.heap.size) (o := 0) (u := .int .i64 0) (by simp)
 have d1 := cell_keep hb4 (b := w.heap.size) (o := 1) (u := .int .i64 0) (by simp)
 have d2 := cell_keep hb4 (b := w.heap.size) (o := 2) (u := .int .i64 0) (by simp)
 have d3 := cell_keep hb4 (b := w.heap.size) (o := 3) (u := .int .i64 0) (by simp)
 have d4 := cell_keep hb4 (b := w.heap.size) (o := 4) (u := .int .i64 0) (by simp)
 have d5 := cell_keep hb4 (b := w.heap.size) (o := 5) (u := .int .i64 0) (by simp)
 have HD := Lib.hid (And.intro d0 (And.intro d1 (And.intro d2 (And.intro d3 (And.intro d4 d5)))))
 clear hb4 HF HTA HBA d1 d2 d3 d4 d5
 go_wp2_with fail
 refine wp_region_N (S := (fun w' => w'.cell? ⟨w.heap.size, 0, none⟩ = some (.int .i64 0))) (fun i => true) (by kernel_rfl) ?_ (fun hHeld => ?_)
 ·(try dsimp only)
  first
   | (with_reducible assumption)
   | (refine cell_keep ?_ d0 <;> (first | exact hbw4 | exact hbw4.drew | (go_grown; done)))
 refine tk (i := 1) (v := ?_) rfl (by kernel_rfl) (fun _ _ _ h => h) (Or.inl ⟨by first | kernel_rfl | rfl, ?_⟩) (by assumption) ?_
 rotate_left
 focus intro w hSw; (try dsimp only at hSw); go_simp; try with_reducible rfl
 try (unfold Act.put; dsimp only)
 refine tk (i := 2) (v := ?_) rfl (by kernel_rfl) (fun _ _ _ h => h) (Or.inl ⟨by first | kernel_rfl | rfl, ?_⟩) (by assumption) ?_
 rotate_left
 focus intro w hSw; (try dsimp only at hSw); go_simp; try with_reducible rfl
 try (unfold Act.put; dsimp only)
 refine wpAnyN_ready (rs := [0]) (by kernel_rfl) (by simp) ?_
 refine AllReadyN.cons rfl (fun K hK => ?_) ?_
 ·go_simp
  go_at_call 28
  refine (names_at _).mono ?_
  rintro e w5 ⟨rfl, hcs, hb5⟩
  have hnc : w5.cell? ⟨w4.heap.size, 0, none⟩ = some (.string (bsA (entName 0))) := hcs 0 (by omega)
  have hbw4 : Below w4.heap.size w4 w5 := Below.trans (show Below w4.heap.size w4 _ by first | exact Below.refl _ _ | exact (Below.refl _ _).drew) (hb5.mono (by first | exact Nat.le_refl _ | (simp; done)))
  dsimp only
  refine hK.out _ _ ?_ (fun hHeld => ?_)
  ·(try dsimp only)
   first
    | (with_reducible assumption)
    | (refine cell_keep ?_ d0 <;> (first | exact hbw4 | exact hbw4.drew | (go_grown; done)))
  clear hK K
  (try change wpAnyN _ _ _ _ _ _ _ _ (Act.put _ (some 9) _) _)
  try (unfold Act.put; dsimp only)
  refine tk (i := 3) (v := ?_) rfl (by kernel_rfl) (fun _ _ _ h => h) (Or.inl ⟨by first | kernel_rfl | rfl, ?_⟩) (by assumption) ?_
  rotate_left
  focus intro w hSw; (try dsimp only at hSw); go_simp; try with_reducible rfl
  try (unfold Act.put; dsimp only)
  refine wpAnyN_ready (rs := [4]) (by kernel_rfl) (by simp) ?_
  refine AllReadyN.cons rfl (fun K hK => ?_) ?_
  ·go_simp
   refine hK.out _ _ ?_ (fun hHeld => ?_)
   ·(try dsimp only)
    first
     | (with_reducible assumption)
     | (refine cell_keep ?_ d0 <;> (first | exact hbw4 | exact hbw4.drew | (go_grown; done)))
   clear hK K
   (try change wpAnyN _ _ _ _ _ _ _ _ (Act.put _ (some 13) _) _)
   try (unfold Act.put; dsimp only)
   refine tk (i := 5) (v := ?_) rfl (by kernel_rfl) (fun _ _ _ h => h) (Or.inl ⟨by first | kernel_rfl | rfl, ?_⟩) (by assumption) ?_
   rotate_left
   focus intro w hSw; (try dsimp only at hSw); go_simp; try with_reducible rfl
   try (unfold Act.put; dsimp only)
   refine wpAnyN_done (by kernel_rfl) ?_ _
   obtain ⟨f0, f1, f2, f3, f4, f5⟩ := HD.out
   have e0 := cell_keep hbw4 f0
   have e1 := cell_keep hbw4 f1
   have e2 := cell_keep hbw4 f2
   have e3 := cell_keep hbw4 f3
   have e4 := cell_keep hbw4 f4
   have e5 := cell_keep hbw4 f5
   have HT5 := Lib.hid (HT4.out.below hbw4)
   have HB5 := Lib.hid (HB4.out.trans (hbw4.mono (Nat.le_of_lt HG4.out)))
   have HGW := Lib.hid (Nat.lt_of_lt_of_le HG4.out hbw4.size)
   clear f0 f1 f2 f3 f4 f5 hbw4 hnc hcs hb5
   go_wp2
   go_ret2
   exact ⟨rfl, HB5.out⟩
  exact AllReadyN.nil
 exact AllReadyN.nil
set_option maxRecDepth 100000 in
set_option maxHeartbeats 4000000 in
theorem entry_1  (w : World) (hT : TxW w) (hf : entB 1 0 0 0 0 0 = true) :
 Calls Tryz.prog 10 #[.agg #[.int .i64 1, .int .i64 0, .int .i64 0, .int .i64 0, .int .i64 0, .int .i64 0]] w fun e w' => e = .returned (.tuple #[.string (bsA (jnL 32 [entName 1])), .nilIface]) ∧ Below w.heap.size w w' := by
 have hbA : Below w.heap.size w (w.alloc (.cells #[.int .i64 1, .int .i64 0, .int .i64 0, .int .i64 0, .int .i64 0, .int .i64 0] 33)) := (Below.refl _ _).alloc (Nat.le_refl _) _
 have hok := entok_any 1 0 0 0 0 0 (w.alloc (.cells #[.int .i64 1, .int .i64 0, .int .i64 0, .int .i64 0, .int .i64 0, .int .i64 0] 33))
 rw [hf] at hok
 have HF := Lib.hid hok
 have HTA := Lib.hid (hT.below hbA)
 have HBA := Lib.hid hbA
 clear hT hf hbA hok
 go_enter Tryz.func10, Tryz.ntmps10
 go_wp2_with fail
 refine HF.out.mono ?_
 rintro e w4 ⟨rfl, hb4⟩
 have HT4 := Lib.hid (HTA.out.below hb4)
 have HB4 := Lib.hid (HBA.out.trans (hb4.mono HBA.out.size))
 have HG4 := Lib.hid (show w.heap.size < w4.heap.size from Nat.lt_of_lt_of_le (by simp) hb4.size)
 have d0 := cell_keep hb4 (b := w.heap.size) (o := 0) (u := .int .i64 1) (by simp)
 have d1 := cell_keep hb4 (b := w.heap.size) (o := 1) (u := .int .i64 0) (by simp)
 have d2 := cell_keep hb4 (b := w.heap.size) (o := 2) (u := .int .i64 0) (by simp)
 have d3 := cell_keep hb4 (b := w.heap.size) (o := 3) (u := .int .i64 0) (by simp)
 have d4 := cell_keep hb4 (b := w.heap.size) (o := 4) (u := .int .i64 0) (by simp)
 have d5 := cell_keep hb4 (b := w.heap.size) (o := 5) (u := .int .i64 0) (by simp)
 have HD := Lib.hid (And.intro d0 (And.intro d1 (And.intro d2 (And.intro d3 (And.intro d4 d5)))))
 clear hb4 HF HTA HBA d1 d2 d3 d4 d5
 go_wp2_with fail
 refine wp_region_N (S := (fun w' => w'.cell? ⟨w.heap.size, 0, none⟩ = some (.int .i64 1))) (fun i => true) (by kernel_rfl) ?_ (fun hHeld => ?_)
 ·(try dsimp only)
  first
   | (with_reducible assumption)
   | (refine cell_keep ?_ d0 <;> (first | exact hbw4 | exact hbw4.drew | (go_grown; done)))
 refine tk (i := 1) (v := ?_) rfl (by kernel_rfl) (fun _ _ _ h => h) (Or.inl ⟨by first | kernel_rfl | rfl, ?_⟩) (by assumption) ?_
 rotate_left
 focus intro w hSw; (try dsimp only at hSw); go_simp; try with_reducible rfl
 try (unfold Act.put; dsimp only)
 refine tk (i := 2) (v := ?_) rfl (by kernel_rfl) (fun _ _ _ h => h) (Or.inl ⟨by first | kernel_rfl | rfl, ?_⟩) (by assumption) ?_
 rotate_left
 focus intro w hSw; (try dsimp only at hSw); go_simp; try with_reducible rfl
 try (unfold Act.put; dsimp only)
 refine wpAnyN_ready (rs := [0]) (by kernel_rfl) (by simp) ?_
 refine AllReadyN.cons rfl (fun K hK => ?_) ?_
 ·go_simp
  go_at_call 28
  refine (names_at _).mono ?_
  rintro e w5 ⟨rfl, hcs, hb5⟩
  have hnc : w5.cell? ⟨w4.heap.size, 1, none⟩ = some (.string (bsA (entName 1))) := hcs 1 (by omega)
  have hbw4 : Below w4.heap.size w4 w5 := Below.trans (show Below w4.heap.size w4 _ by first | exact Below.refl _ _ | exact (Below.refl _ _).drew) (hb5.mono (by first | exact Nat.le_refl _ | (simp; done)))
  dsimp only
  refine hK.out _ _ ?_ (fun hHeld => ?_)
  ·(try dsimp only)
   first
    | (with_reducible assumption)
    | (refine cell_keep ?_ d0 <;> (first | exact hbw4 | exact hbw4.drew | (go_grown; done)))
  clear hK K
  (try change wpAnyN _ _ _ _ _ _ _ _ (Act.put _ (some 9) _) _)
  try (unfold Act.put; dsimp only)
  refine tk (i := 3) (v := ?_) rfl (by kernel_rfl) (fun _ _ _ h => h) (Or.inl ⟨by first | kernel_rfl | rfl, ?_⟩) (by assumption) ?_
  rotate_left
  focus intro w hSw; (try dsimp only at hSw); go_simp; try with_reducible rfl
  try (unfold Act.put; dsimp only)
  refine wpAnyN_ready (rs := [4]) (by kernel_rfl) (by simp) ?_
  refine AllReadyN.cons rfl (fun K hK => ?_) ?_
  ·go_simp
   refine hK.out _ _ ?_ (fun hHeld => ?_)
   ·(try dsimp only)
    first
     | (with_reducible assumption)
     | (refine cell_keep ?_ d0 <;> (first | exact hbw4 | exact hbw4.drew | (go_grown; done)))
   clear hK K
   (try change wpAnyN _ _ _ _ _ _ _ _ (Act.put _ (some 13) _) _)
   try (unfold Act.put; dsimp only)
   refine tk (i := 5) (v := ?_) rfl (by kernel_rfl) (fun _ _ _ h => h) (Or.inl ⟨by first | kernel_rfl | rfl, ?_⟩) (by assumption) ?_
   rotate_left
   focus intro w hSw; (try dsimp only at hSw); go_simp; try with_reducible rfl
   try (unfold Act.put; dsimp only)
   refine wpAnyN_done (by kernel_rfl) ?_ _
   obtain ⟨f0, f1, f2, f3, f4, f5⟩ := HD.out
   have e0 := cell_keep hbw4 f0
   have e1 := cell_keep hbw4 f1
   have e2 := cell_keep hbw4 f2
   have e3 := cell_keep hbw4 f3
   have e4 := cell_keep hbw4 f4
   have e5 := cell_keep hbw4 f5
   have HT5 := Lib.hid (HT4.out.below hbw4)
   have HB5 := Lib.hid (HB4.out.trans (hbw4.mono (Nat.le_of_lt HG4.out)))
   have HGW := Lib.hid (Nat.lt_of_lt_of_le HG4.out hbw4.size)
   clear f0 f1 f2 f3 f4 f5 hbw4 hnc hcs hb5
   go_wp2
   go_ret2
   exact ⟨rfl, HB5.out⟩
  exact AllReadyN.nil
 exact AllReadyN.nil
set_option maxRecDepth 100000 in
set_option maxHeartbeats 4000000 in
theorem entry_2 (c : Nat) (hc : c ≤ 99999999) (w : World) (hT : TxW w) (hf : entB 2 (c : Int) 0 0 0 0 = true) :
 Calls Tryz.prog 10 #[.agg #[.int .i64 2, .int .i64 c, .int .i64 0, .int .i64 0, .int .i64 0, .int .i64 0]] w fun e w' => e = .returned (.tuple #[.string (bsA (jnL 32 [entName 2, decL c])), .nilIface]) ∧ Below w.heap.size w w' := by
 have hbA : Below w.heap.size w (w.alloc (.cells #[.int .i64 2, .int .i64 c, .int .i64 0, .int .i64 0, .int .i64 0, .int .i64 0] 33)) := (Below.refl _ _).alloc (Nat.le_refl _) _
 have hok := entok_any 2 (c : Int) 0 0 0 0 (w.alloc (.cells #[.int .i64 2, .int .i64 c, .int .i64 0, .int .i64 0, .int .i64 0, .int .i64 0] 33))
 rw [hf] at hok
 have HF := Lib.hid hok
 have HJ := Lib.hid (show (jnL 32 [entName 2, decL c]).length ≤ 1000000 from by
  simp only [jnL, List.length_append, List.length_cons]
  have hnm : (entName 2).length ≤ 10 := by decide
  have s0 : (decL c).length ≤ 8 := dec_len8 hc
  omega)
 have HTA := Lib.hid (hT.below hbA)
 have HBA := Lib.hid hbA
 clear hT hf hbA hok
 go_enter Tryz.func10, Tryz.ntmps10
 go_wp2_with fail
 refine HF.out.mono ?_
 rintro e w4 ⟨rfl, hb4⟩
 have HT4 := Lib.hid (HTA.out.below hb4)
 have HB4 := Lib.hid (HBA.out.trans (hb4.mono HBA.out.size))
 have HG4 := Lib.hid (show w.heap.size < w4.heap.size from Nat.lt_of_lt_of_le (by simp) hb4.size)
 have d0 := cell_keep hb4 (b := w.heap.size) (o := 0) (u := .int .i64 2) (by simp)
 have d1 := cell_keep hb4 (b := w.heap.size) (o := 1) (u := .int .i64 c) (by simp)
 have d2 := cell_keep hb4 (b := w.heap.size) (o := 2) (u := .int .i64 0) (by simp)
 have d3 := cell_keep hb4 (b := w.heap.size) (o := 3) (u := .int .i64 0) (by simp)
 have d4 := cell_keep hb4 (b := w.heap.size) (o := 4) (u := .int .i64 0) (by simp)
 have d5 := cell_keep hb4 (b := w.heap.size) (o := 5) (u := .int .i64 0) (by simp)
 have HD := Lib.hid (And.intro d0 (And.intro d1 (And.intro d2 (And.intro d3 (And.intro d4 d5)))))
 clear hb4 HF HTA HBA d1 d2 d3 d4 d5
 go_wp2_with fail
 refine wp_region_N (S := (fun w' => w'.cell? ⟨w.heap.size, 0, none⟩ = some (.int .i64 2))) (fun i => true) (by kernel_rfl) ?_ (fun hHeld => ?_)
 ·(try dsimp only)
  first
   | (with_reducible assumption)
   | (refine cell_keep ?_ d0 <;> (first | exact hbw4 | exact hbw4.drew | (go_grown; done)))
 refine tk (i := 1) (v := ?_) rfl (by kernel_rfl) (fun _ _ _ h => h) (Or.inl ⟨by first | kernel_rfl | rfl, ?_⟩) (by assumption) ?_
 rotate_left
 focus intro w hSw; (try dsimp only at hSw); go_simp; try with_reducible rfl
 try (unfold Act.put; dsimp only)
 refine tk (i := 2) (v := ?_) rfl (by kernel_rfl) (fun _ _ _ h => h) (Or.inl ⟨by first | kernel_rfl | rfl, ?_⟩) (by assumption) ?_
 rotate_left
 focus intro w hSw; (try dsimp only at hSw); go_simp; try with_reducible rfl
 try (unfold Act.put; dsimp only)
 refine wpAnyN_ready (rs := [0]) (by kernel_rfl) (by simp) ?_
 refine AllReadyN.cons rfl (fun K hK => ?_) ?_
 ·go_simp
  go_at_call 28
  refine (names_at _).mono ?_
  rintro e w5 ⟨rfl, hcs, hb5⟩
  have hnc : w5.cell? ⟨w4.heap.size, 2, none⟩ = some (.string (bsA (entName 2))) := hcs 2 (by omega)
  have hbw4 : Below w4.heap.size w4 w5 := Below.trans (show Below w4.heap.size w4 _ by first | exact Below.refl _ _ | exact (Below.refl _ _).drew) (hb5.mono (by first | exact Nat.le_refl _ | (simp; done)))
  dsimp only
  refine hK.out _ _ ?_ (fun hHeld => ?_)
  ·(try dsimp only)
   first
    | (with_reducible assumption)
    | (refine cell_keep ?_ d0 <;> (first | exact hbw4 | exact hbw4.drew | (go_grown; done)))
  clear hK K
  (try change wpAnyN _ _ _ _ _ _ _ _ (Act.put _ (some 9) _) _)
  try (unfold Act.put; dsimp only)
  refine tk (i := 3) (v := ?_) rfl (by kernel_rfl) (fun _ _ _ h => h) (Or.inl ⟨by first | kernel_rfl | rfl, ?_⟩) (by assumption) ?_
  rotate_left
  focus intro w hSw; (try dsimp only at hSw); go_simp; try with_reducible rfl
  try (unfold Act.put; dsimp only)
  refine wpAnyN_ready (rs := [4]) (by kernel_rfl) (by simp) ?_
  refine AllReadyN.cons rfl (fun K hK => ?_) ?_
  ·go_simp
   refine hK.out _ _ ?_ (fun hHeld => ?_)
   ·(try dsimp only)
    first
     | (with_reducible assumption)
     | (refine cell_keep ?_ d0 <;> (first | exact hbw4 | exact hbw4.drew | (go_grown; done)))
   clear hK K
   (try change wpAnyN _ _ _ _ _ _ _ _ (Act.put _ (some 13) _) _)
   try (unfold Act.put; dsimp only)
   refine tk (i := 5) (v := ?_) rfl (by kernel_rfl) (fun _ _ _ h => h) (Or.inl ⟨by first | kernel_rfl | rfl, ?_⟩) (by assumption) ?_
   rotate_left
   focus intro w hSw; (try dsimp only at hSw); go_simp; try with_reducible rfl
   try (unfold Act.put; dsimp only)
   refine wpAnyN_done (by kernel_rfl) ?_ _
   obtain ⟨f0, f1, f2, f3, f4, f5⟩ := HD.out
   have e0 := cell_keep hbw4 f0
   have e1 := cell_keep hbw4 f1
   have e2 := cell_keep hbw4 f2
   have e3 := cell_keep hbw4 f3
   have e4 := cell_keep hbw4 f4
   have e5 := cell_keep hbw4 f5
   have HT5 := Lib.hid (HT4.out.below hbw4)
   have HB5 := Lib.hid (HB4.out.trans (hbw4.mono (Nat.le_of_lt HG4.out)))
   have HGW := Lib.hid (Nat.lt_of_lt_of_le HG4.out hbw4.size)
   clear f0 f1 f2 f3 f4 f5 hbw4 hnc hcs hb5
   go_wp2_with fail
   refine (itoa_any c _ HT5.out hc).mono ?_
   rintro e w6 ⟨rfl, hb6⟩
   have HB6 := Lib.hid (HB5.out.trans (hb6.mono (Nat.le_of_lt HGW.out)))
   have HG6 := Lib.hid (Nat.lt_of_lt_of_le HGW.out hb6.size)
   have HLN := Lib.hid (line_any (entName 2) _ 1 1 [decL c] (w6.alloc (.cells #[.string (bsA (decL c))] 9)) (rds_one w6 _ _) rfl (by omega) HJ.out)
   clear hb6
   go_wp2_with fail
   refine HLN.out.mono ?_
   rintro e w7 ⟨rfl, hb7⟩
   go_wp2
   go_ret2
   exact ⟨rfl, (HB6.out.alloc (Nat.le_of_lt HG6.out) _).trans (hb7.mono (by have := HG6.out; simp; omega))⟩
  exact AllReadyN.nil
 exact AllReadyN.nil
set_option maxRecDepth 100000 in
set_option maxHeartbeats 4000000 in
theorem entry_3 (c t r m : Nat) (hc : c ≤ 99999999) (ht : 1 ≤ t ∧ t ≤ 250) (hr : r ≤ 250) (hm : m ≤ 4) (w : World) (hT : TxW w) (hf : entB 3 (c : Int) (t : Int) (r : Int) (m : Int) 0 = true) :
 Calls Tryz.prog 10 #[.agg #[.int .i64 3, .int .i64 c, .int .i64 t, .int .i64 r, .int .i64 m, .int .i64 0]] w fun e w' => e = .returned (.tuple #[.string (bsA (jnL 32 [entName 3, decL c, textL t r, modeL m])), .nilIface]) ∧ Below w.heap.size w w' := by
 have hbA : Below w.heap.size w (w.alloc (.cells #[.int .i64 3, .int .i64 c, .int .i64 t, .int .i64 r, .int .i64 m, .int .i64 0] 33)) := (Below.refl _ _).alloc (Nat.le_refl _) _
 have hok := entok_any 3 (c : Int) (t : Int) (r : Int) (m : Int) 0 (w.alloc (.cells #[.int .i64 3, .int .i64 c, .int .i64 t, .int .i64 r, .int .i64 m, .int .i64 0] 33))
 rw [hf] at hok
 have HF := Lib.hid hok
 have HJ := Lib.hid (show (jnL 32 [entName 3, decL c, textL t r, modeL m]).length ≤ 1000000 from by
  simp only [jnL, List.length_append, List.length_cons]
  have hnm : (entName 3).length ≤ 10 := by decide
  have s0 : (decL c).length ≤ 8 := dec_len8 hc
  have s1 : (textL t r).length ≤ 8 := text_len8 ht.2 hr
  have s2 : (modeL m).length ≤ 8 := mode_len8 m
  omega)
 have HTA := Lib.hid (hT.below hbA)
 have HBA := Lib.hid hbA
 clear hT hf hbA hok
 go_enter Tryz.func10, Tryz.ntmps10
 go_wp2_with fail
 refine HF.out.mono ?_
 rintro e w4 ⟨rfl, hb4⟩
 have HT4 := Lib.hid (HTA.out.below hb4)
 have HB4 := Lib.hid (HBA.out.trans (hb4.mono HBA.out.size))
 have HG4 := Lib.hid (show w.heap.size < w4.heap.size from Nat.lt_of_lt_of_le (by simp) hb4.size)
 have d0 := cell_keep hb4 (b := w.heap.size) (o := 0) (u := .int .i64 3) (by simp)
 have d1 := cell_keep hb4 (b := w.heap.size) (o := 1) (u := .int .i64 c) (by simp)
 have d2 := cell_keep hb4 (b := w.heap.size) (o := 2) (u := .int .i64 t) (by simp)
 have d3 := cell_keep hb4 (b := w.heap.size) (o := 3) (u := .int .i64 r) (by simp)
 have d4 := cell_keep hb4 (b := w.heap.size) (o := 4) (u := .int .i64 m) (by simp)
 have d5 := cell_keep hb4 (b := w.heap.size) (o := 5) (u := .int .i64 0) (by simp)
 have HD := Lib.hid (And.intro d0 (And.intro d1 (And.intro d2 (And.intro d3 (And.intro d4 d5)))))
 clear hb4 HF HTA HBA d1 d2 d3 d4 d5
 go_wp2_with fail
 refine wp_region_N (S := (fun w' => w'.cell? ⟨w.heap.size, 0, none⟩ = some (.int .i64 3))) (fun i => true) (by kernel_rfl) ?_ (fun hHeld => ?_)
 ·(try dsimp only)
  first
   | (with_reducible assumption)
   | (refine cell_keep ?_ d0 <;> (first | exact hbw4 | exact hbw4.drew | (go_grown; done)))
 refine tk (i := 1) (v := ?_) rfl (by kernel_rfl) (fun _ _ _ h => h) (Or.inl ⟨by first | kernel_rfl | rfl, ?_⟩) (by assumption) ?_
 rotate_left
 focus intro w hSw; (try dsimp only at hSw); go_simp; try with_reducible rfl
 try (unfold Act.put; dsimp only)
 refine tk (i := 2) (v := ?_) rfl (by kernel_rfl) (fun _ _ _ h => h) (Or.inl ⟨by first | kernel_rfl | rfl, ?_⟩) (by assumption) ?_
 rotate_left
 focus intro w hSw; (try dsimp only at hSw); go_simp; try with_reducible rfl
 try (unfold Act.put; dsimp only)
 refine wpAnyN_ready (rs := [0]) (by kernel_rfl) (by simp) ?_
 refine AllReadyN.cons rfl (fun K hK => ?_) ?_
 ·go_simp
  go_at_call 28
  refine (names_at _).mono ?_
  rintro e w5 ⟨rfl, hcs, hb5⟩
  have hnc : w5.cell? ⟨w4.heap.size, 3, none⟩ = some (.string (bsA (entName 3))) := hcs 3 (by omega)
  have hbw4 : Below w4.heap.size w4 w5 := Below.trans (show Below w4.heap.size w4 _ by first | exact Below.refl _ _ | exact (Below.refl _ _).drew) (hb5.mono (by first | exact Nat.le_refl _ | (simp; done)))
  dsimp only
  refine hK.out _ _ ?_ (fun hHeld => ?_)
  ·(try dsimp only)
   first
    | (with_reducible assumption)
    | (refine cell_keep ?_ d0 <;> (first | exact hbw4 | exact hbw4.drew | (go_grown; done)))
  clear hK K
  (try change wpAnyN _ _ _ _ _ _ _ _ (Act.put _ (some 9) _) _)
  try (unfold Act.put; dsimp only)
  refine tk (i := 3) (v := ?_) rfl (by kernel_rfl) (fun _ _ _ h => h) (Or.inl ⟨by first | kernel_rfl | rfl, ?_⟩) (by assumption) ?_
  rotate_left
  focus intro w hSw; (try dsimp only at hSw); go_simp; try with_reducible rfl
  try (unfold Act.put; dsimp only)
  refine wpAnyN_ready (rs := [4]) (by kernel_rfl) (by simp) ?_
  refine AllReadyN.cons rfl (fun K hK => ?_) ?_
  ·go_simp
   refine hK.out _ _ ?_ (fun hHeld => ?_)
   ·(try dsimp only)
    first
     | (with_reducible assumption)
     | (refine cell_keep ?_ d0 <;> (first | exact hbw4 | exact hbw4.drew | (go_grown; done)))
   clear hK K
   (try change wpAnyN _ _ _ _ _ _ _ _ (Act.put _ (some 13) _) _)
   try (unfold Act.put; dsimp only)
   refine tk (i := 5) (v := ?_) rfl (by kernel_rfl) (fun _ _ _ h => h) (Or.inl ⟨by first | kernel_rfl | rfl, ?_⟩) (by assumption) ?_
   rotate_left
   focus intro w hSw; (try dsimp only at hSw); go_simp; try with_reducible rfl
   try (unfold Act.put; dsimp only)
   refine wpAnyN_done (by kernel_rfl) ?_ _
   obtain ⟨f0, f1, f2, f3, f4, f5⟩ := HD.out
   have e0 := cell_keep hbw4 f0
   have e1 := cell_keep hbw4 f1
   have e2 := cell_keep hbw4 f2
   have e3 := cell_keep hbw4 f3
   have e4 := cell_keep hbw4 f4
   have e5 := cell_keep hbw4 f5
   have HT5 := Lib.hid (HT4.out.below hbw4)
   have HB5 := Lib.hid (HB4.out.trans (hbw4.mono (Nat.le_of_lt HG4.out)))
   have HGW := Lib.hid (Nat.lt_of_lt_of_le HG4.out hbw4.size)
   clear f0 f1 f2 f3 f4 f5 hbw4 hnc hcs hb5
   have hm4 : (m : Int) < 5 := by omega
   go_wp2_with fail
   refine wp_region_N (S := (fun w' => w'.cell? ⟨w.heap.size, 1, none⟩ = some (.int .i64 c) ∧ w'.cell? ⟨w.heap.size, 2, none⟩ = some (.int .i64 t) ∧ w'.cell? ⟨w.heap.size, 3, none⟩ = some (.int .i64 r) ∧ w'.cell? ⟨w.heap.size, 4, none⟩ = some (.int .i64 m))) (fun i => true) (by kernel_rfl) ?_ (fun hHeld => ?_)
   ·(try dsimp only)
    first
     | (refine ⟨?_, ?_, ?_, ?_⟩ <;> with_reducible assumption)
     | (refine ⟨cell_keep ?_ e1, cell_keep ?_ e2, cell_keep ?_ e3, cell_keep ?_ e4⟩ <;> (first | exact hbw | exact hbw.drew | exact hbw.alloc hbw.size _ | exact (hbw.alloc hbw.size _).drew | (go_grown; done)))
   refine tk (i := 0) (v := ?_) rfl (by kernel_rfl) (fun _ _ _ h => h) (Or.inl ⟨by first | kernel_rfl | rfl, ?_⟩) (by assumption) ?_
   rotate_left
   focus intro w hSw; (try dsimp only at hSw); go_simp; try with_reducible rfl
   try (unfold Act.put; dsimp only)
   refine tk (i := 1) (v := ?_) rfl (by kernel_rfl) (fun _ _ _ h => h) (Or.inl ⟨by first | kernel_rfl | rfl, ?_⟩) (by assumption) ?_
   rotate_left
   focus intro w hSw; (try dsimp only at hSw); go_simp; try with_reducible rfl
   try (unfold Act.put; dsimp only)
   refine tk (i := 2) (v := ?_) rfl (by kernel_rfl) (fun _ _ _ h => h) (Or.inl ⟨by first | kernel_rfl | rfl, ?_⟩) (by assumption) ?_
   rotate_left
   focus intro w hSw; (try dsimp only at hSw); go_simp; try with_reducible rfl
   try (unfold Act.put; dsimp only)
   refine tk (i := 4) (v := ?_) rfl (by kernel_rfl) (fun _ _ _ h => h) (Or.inl ⟨by first | kernel_rfl | rfl, ?_⟩) (by assumption) ?_
   rotate_left
   focus intro w hSw; (try dsimp only at hSw); go_simp; try with_reducible rfl
   try (unfold Act.put; dsimp only)
   refine tk (i := 5) (v := ?_) rfl (by kernel_rfl) (fun _ _ _ h => h) (Or.inl ⟨by first | kernel_rfl | rfl, ?_⟩) (by assumption) ?_
   rotate_left
   focus intro w hSw; (try dsimp only at hSw); go_simp; try with_reducible rfl
   try (unfold Act.put; dsimp only)
   refine tk (i := 8) (v := ?_) rfl (by kernel_rfl) (fun _ _ _ h => h) (Or.inl ⟨by first | kernel_rfl | rfl, ?_⟩) (by assumption) ?_
   rotate_left
   focus intro w hSw; (try dsimp only at hSw); go_simp; try with_reducible rfl
   try (unfold Act.put; dsimp only)
   refine tk (i := 9) (v := ?_) rfl (by kernel_rfl) (fun _ _ _ h => h) (Or.inl ⟨by first | kernel_rfl | rfl, ?_⟩) (by assumption) ?_
   rotate_left
   focus intro w hSw; (try dsimp only at hSw); go_simp; try with_reducible rfl
   try (unfold Act.put; dsimp only)
   refine wpAnyN_ready (rs := [3]) (by kernel_rfl) (by simp) ?_
   refine AllReadyN.cons rfl (fun K hK => ?_) ?_
   ·go_simp
    go_at_call 30
    refine (itoa_any c _ (HT5.out.below (show Below w5.heap.size w5 _ by first | exact Below.refl _ _ | exact (Below.refl _ _).drew | exact hbw | exact hbw.drew | exact hbw.alloc hbw.size _ | exact (hbw.alloc hbw.size _).drew | go_grown)) hc).mono ?_
    rintro e w6 ⟨rfl, hb6⟩
    have hbw : Below w5.heap.size w5 w6 := Below.trans (show Below w5.heap.size w5 _ by first | exact Below.refl _ _ | exact (Below.refl _ _).drew | exact hbw | exact hbw.drew | exact hbw.alloc hbw.size _ | exact (hbw.alloc hbw.size _).drew | go_grown) (hb6.mono (by first | exact Nat.le_refl _ | exact hbw.size | (simp; done) | (have := hbw.size; simp; omega)))
    dsimp only
    refine hK.out _ _ ?_ (fun hHeld => ?_)
    ·(try dsimp only)
     first
      | (refine ⟨?_, ?_, ?_, ?_⟩ <;> with_reducible assumption)
      | (refine ⟨cell_keep ?_ e1, cell_keep ?_ e2, cell_keep ?_ e3, cell_keep ?_ e4⟩ <;> (first | exact hbw | exact hbw.drew | exact hbw.alloc hbw.size _ | exact (hbw.alloc hbw.size _).drew | (go_grown; done)))
    clear hK K
    (try change wpAnyN _ _ _ _ _ _ _ _ (Act.put _ (some 25) _) _)
    try (unfold Act.put; dsimp only)
    refine wpAnyN_ready (rs := [6]) (by kernel_rfl) (by simp) ?_
    refine AllReadyN.cons rfl (fun K hK => ?_) ?_
    ·go_simp
     go_at_call 31
     refine (place_any t r _ (HT5.out.below (show Below w5.heap.size w5 _ by first | exact Below.refl _ _ | exact (Below.refl _ _).drew | exact hbw | exact hbw.drew | exact hbw.alloc hbw.size _ | exact (hbw.alloc hbw.size _).drew | go_grown)) ht hr).mono ?_
     rintro e w6 ⟨rfl, hb6⟩
     have hbw : Below w5.heap.size w5 w6 := Below.trans (show Below w5.heap.size w5 _ by first | exact Below.refl _ _ | exact (Below.refl _ _).drew | exact hbw | exact hbw.drew | exact hbw.alloc hbw.size _ | exact (hbw.alloc hbw.size _).drew | go_grown) (hb6.mono (by first | exact Nat.le_refl _ | exact hbw.size | (simp; done) | (have := hbw.size; simp; omega)))
     dsimp only
     refine hK.out _ _ ?_ (fun hHeld => ?_)
     ·(try dsimp only)
      first
       | (refine ⟨?_, ?_, ?_, ?_⟩ <;> with_reducible assumption)
       | (refine ⟨cell_keep ?_ e1, cell_keep ?_ e2, cell_keep ?_ e3, cell_keep ?_ e4⟩ <;> (first | exact hbw | exact hbw.drew | exact hbw.alloc hbw.size _ | exact (hbw.alloc hbw.size _).drew | (go_grown; done)))
     clear hK K
     (try change wpAnyN _ _ _ _ _ _ _ _ (Act.put _ (some 28) _) _)
     try (unfold Act.put; dsimp only)
     refine wpAnyN_ready (rs := [7]) (by kernel_rfl) (by simp) ?_
     refine AllReadyN.cons rfl (fun K hK => ?_) ?_
     ·go_simp
      go_at_call 32
      refine (modes_at _).mono ?_
      rintro e w6 ⟨rfl, hcs, hb6⟩
      have hmc := hcs m (by omega)
      have hbw : Below w5.heap.size w5 w6 := Below.trans (show Below w5.heap.size w5 _ by first | exact Below.refl _ _ | exact (Below.refl _ _).drew | exact hbw | exact hbw.drew | exact hbw.alloc hbw.size _ | exact (hbw.alloc hbw.size _).drew | go_grown) (hb6.mono (by first | exact Nat.le_refl _ | exact hbw.size | (simp; done) | (have := hbw.size; simp; omega)))
      dsimp only
      refine hK.out _ _ ?_ (fun hHeld => ?_)
      ·(try dsimp only)
       first
        | (refine ⟨?_, ?_, ?_, ?_⟩ <;> with_reducible assumption)
        | (refine ⟨cell_keep ?_ e1, cell_keep ?_ e2, cell_keep ?_ e3, cell_keep ?_ e4⟩ <;> (first | exact hbw | exact hbw.drew | exact hbw.alloc hbw.size _ | exact (hbw.alloc hbw.size _).drew | (go_grown; done)))
      clear hK K
      (try change wpAnyN _ _ _ _ _ _ _ _ (Act.put _ (some 29) _) _)
      try (unfold Act.put; dsimp only)
      refine tk (i := 10) (v := ?_) rfl (by kernel_rfl) (fun _ _ _ h => h) (Or.inl ⟨by first | kernel_rfl | rfl, ?_⟩) (by assumption) ?_
      rotate_left
      focus intro w hSw; (try dsimp only at hSw); go_simp; try with_reducible rfl
      try (unfold Act.put; dsimp only)
      refine wpAnyN_ready (rs := [11]) (by kernel_rfl) (by simp) ?_
      refine AllReadyN.cons rfl (fun K hK => ?_) ?_
      ·go_simp
       refine hK.out _ _ ?_ (fun hHeld => ?_)
       ·(try dsimp only)
        first
         | (refine ⟨?_, ?_, ?_, ?_⟩ <;> with_reducible assumption)
         | (refine ⟨cell_keep ?_ e1, cell_keep ?_ e2, cell_keep ?_ e3, cell_keep ?_ e4⟩ <;> (first | exact hbw | exact hbw.drew | exact hbw.alloc hbw.size _ | exact (hbw.alloc hbw.size _).drew | (go_grown; done)))
       clear hK K
       (try change wpAnyN _ _ _ _ _ _ _ _ (Act.put _ (some 33) _) _)
       try (unfold Act.put; dsimp only)
       refine wpAnyN_ready (rs := [12]) (by kernel_rfl) (by simp) ?_
       refine AllReadyN.cons rfl (fun K hK => ?_) ?_
       ·go_simp
        refine hK.out _ _ ?_ (fun hHeld => ?_)
        ·(try dsimp only)
         first
          | (refine ⟨?_, ?_, ?_, ?_⟩ <;> with_reducible assumption)
          | (refine ⟨cell_keep ?_ e1, cell_keep ?_ e2, cell_keep ?_ e3, cell_keep ?_ e4⟩ <;> (first | exact hbw | exact hbw.drew | exact hbw.alloc hbw.size _ | exact (hbw.alloc hbw.size _).drew | (go_grown; done)))
        clear hK K
        (try change wpAnyN _ _ _ _ _ _ _ _ (Act.put _ (some 34) _) _)
        try (unfold Act.put; dsimp only)
        refine wpAnyN_ready (rs := [13]) (by kernel_rfl) (by simp) ?_
        refine AllReadyN.cons rfl (fun K hK => ?_) ?_
        ·go_simp
         go_at_call 29
         refine (line_any (entName 3) _ 3 3 [decL c, textL t r, modeL m] _ (rds_block (g := _) (T := 9) (fr := (0, 0)) (by rw [heap_drew', heap_push, if_pos rfl]; rfl)) rfl (by omega) HJ.out).mono ?_
         rintro e w6 ⟨rfl, hb6⟩
         have hbw : Below w5.heap.size w5 w6 := Below.trans (show Below w5.heap.size w5 _ by first | exact Below.refl _ _ | exact (Below.refl _ _).drew | exact hbw | exact hbw.drew | exact hbw.alloc hbw.size _ | exact (hbw.alloc hbw.size _).drew | go_grown) (hb6.mono (by first | exact Nat.le_refl _ | exact hbw.size | (simp; done) | (have := hbw.size; simp; omega)))
         dsimp only
         refine hK.out _ _ ?_ (fun hHeld => ?_)
         ·(try dsimp only)
          first
           | (refine ⟨?_, ?_, ?_, ?_⟩ <;> with_reducible assumption)
           | (refine ⟨cell_keep ?_ e1, cell_keep ?_ e2, cell_keep ?_ e3, cell_keep ?_ e4⟩ <;> (first | exact hbw | exact hbw.drew | exact hbw.alloc hbw.size _ | exact (hbw.alloc hbw.size _).drew | (go_grown; done)))
         clear hK K
         (try change wpAnyN _ _ _ _ _ _ _ _ (Act.put _ (some 35) _) _)
         try (unfold Act.put; dsimp only)
         refine tk (i := 14) (v := ?_) rfl (by kernel_rfl) (fun _ _ _ h => h) (Or.inl ⟨by first | kernel_rfl | rfl, ?_⟩) (by assumption) ?_
         rotate_left
         focus intro w hSw; (try dsimp only at hSw); go_simp; try with_reducible rfl
         try (unfold Act.put; dsimp only)
         refine tk (i := 15) (v := ?_) rfl (by kernel_rfl) (fun _ _ _ h => h) (Or.inl ⟨by first | kernel_rfl | rfl, ?_⟩) (by assumption) ?_
         rotate_left
         focus intro w hSw; (try dsimp only at hSw); go_simp; try with_reducible rfl
         try (unfold Act.put; dsimp only)
         refine wpAnyN_done (by kernel_rfl) ?_ _
         go_wp2
         go_ret2
         exact ⟨rfl, (HB5.out.trans (hbw.mono (Nat.le_of_lt HGW.out)))⟩
        exact AllReadyN.nil
       exact AllReadyN.nil
      exact AllReadyN.nil
     exact AllReadyN.nil
    exact AllReadyN.nil
   exact AllReadyN.nil
  exact AllReadyN.nil
 exact AllReadyN.nil
set_option maxRecDepth 100000 in
set_option maxHeartbeats 4000000 in
theorem entry_4 (c : Nat) (hc : c ≤ 99999999) (w : World) (hT : TxW w) (hf : entB 4 (c : Int) 0 0 0 0 = true) :
 Calls Tryz.prog 10 #[.agg #[.int .i64 4, .int .i64 c, .int .i64 0, .int .i64 0, .int .i64 0, .int .i64 0]] w fun e w' => e = .returned (.tuple #[.string (bsA (jnL 32 [entName 4, decL c])), .nilIface]) ∧ Below w.heap.size w w' := by
 have hbA : Below w.heap.size w (w.alloc (.cells #[.int .i64 4, .int .i64 c, .int .i64 0, .int .i64 0, .int .i64 0, .int .i64 0] 33)) := (Below.refl _ _).alloc (Nat.le_refl _) _
 have hok := entok_any 4 (c : Int) 0 0 0 0 (w.alloc (.cells #[.int .i64 4, .int .i64 c, .int .i64 0, .int .i64 0, .int .i64 0, .int .i64 0] 33))
 rw [hf] at hok
 have HF := Lib.hid hok
 have HJ := Lib.hid (show (jnL 32 [entName 4, decL c]).length ≤ 1000000 from by
  simp only [jnL, List.length_append, List.length_cons]
  have hnm : (entName 4).length ≤ 10 := by decide
  have s0 : (decL c).length ≤ 8 := dec_len8 hc
  omega)
 have HTA := Lib.hid (hT.below hbA)
 have HBA := Lib.hid hbA
 clear hT hf hbA hok
 go_enter Tryz.func10, Tryz.ntmps10
 go_wp2_with fail
 refine HF.out.mono ?_
 rintro e w4 ⟨rfl, hb4⟩
 have HT4 := Lib.hid (HTA.out.below hb4)
 have HB4 := Lib.hid (HBA.out.trans (hb4.mono HBA.out.size))
 have HG4 := Lib.hid (show w.heap.size < w4.heap.size from Nat.lt_of_lt_of_le (by simp) hb4.size)
 have d0 := cell_keep hb4 (b := w.heap.size) (o := 0) (u := .int .i64 4) (by simp)
 have d1 := cell_keep hb4 (b := w.heap.size) (o := 1) (u := .int .i64 c) (by simp)
 have d2 := cell_keep hb4 (b := w.heap.size) (o := 2) (u := .int .i64 0) (by simp)
 have d3 := cell_keep hb4 (b := w.heap.size) (o := 3) (u := .int .i64 0) (by simp)
 have d4 := cell_keep hb4 (b := w.heap.size) (o := 4) (u := .int .i64 0) (by simp)
 have d5 := cell_keep hb4 (b := w.heap.size) (o := 5) (u := .int .i64 0) (by simp)
 have HD := Lib.hid (And.intro d0 (And.intro d1 (And.intro d2 (And.intro d3 (And.intro d4 d5)))))
 clear hb4 HF HTA HBA d1 d2 d3 d4 d5
 go_wp2_with fail
 refine wp_region_N (S := (fun w' => w'.cell? ⟨w.heap.size, 0, none⟩ = some (.int .i64 4))) (fun i => true) (by kernel_rfl) ?_ (fun hHeld => ?_)
 ·(try dsimp only)
  first
   | (with_reducible assumption)
   | (refine cell_keep ?_ d0 <;> (first | exact hbw4 | exact hbw4.drew | (go_grown; done)))
 refine tk (i := 1) (v := ?_) rfl (by kernel_rfl) (fun _ _ _ h => h) (Or.inl ⟨by first | kernel_rfl | rfl, ?_⟩) (by assumption) ?_
 rotate_left
 focus intro w hSw; (try dsimp only at hSw); go_simp; try with_reducible rfl
 try (unfold Act.put; dsimp only)
 refine tk (i := 2) (v := ?_) rfl (by kernel_rfl) (fun _ _ _ h => h) (Or.inl ⟨by first | kernel_rfl | rfl, ?_⟩) (by assumption) ?_
 rotate_left
 focus intro w hSw; (try dsimp only at hSw); go_simp; try with_reducible rfl
 try (unfold Act.put; dsimp only)
 refine wpAnyN_ready (rs := [0]) (by kernel_rfl) (by simp) ?_
 refine AllReadyN.cons rfl (fun K hK => ?_) ?_
 ·go_simp
  go_at_call 28
  refine (names_at _).mono ?_
  rintro e w5 ⟨rfl, hcs, hb5⟩
  have hnc : w5.cell? ⟨w4.heap.size, 4, none⟩ = some (.string (bsA (entName 4))) := hcs 4 (by omega)
  have hbw4 : Below w4.heap.size w4 w5 := Below.trans (show Below w4.heap.size w4 _ by first | exact Below.refl _ _ | exact (Below.refl _ _).drew) (hb5.mono (by first | exact Nat.le_refl _ | (simp; done)))
  dsimp only
  refine hK.out _ _ ?_ (fun hHeld => ?_)
  ·(try dsimp only)
   first
    | (with_reducible assumption)
    | (refine cell_keep ?_ d0 <;> (first | exact hbw4 | exact hbw4.drew | (go_grown; done)))
  clear hK K
  (try change wpAnyN _ _ _ _ _ _ _ _ (Act.put _ (some 9) _) _)
  try (unfold Act.put; dsimp only)
  refine tk (i := 3) (v := ?_) rfl (by kernel_rfl) (fun _ _ _ h => h) (Or.inl ⟨by first | kernel_rfl | rfl, ?_⟩) (by assumption) ?_
  rotate_left
  focus intro w hSw; (try dsimp only at hSw); go_simp; try with_reducible rfl
  try (unfold Act.put; dsimp only)
  refine wpAnyN_ready (rs := [4]) (by kernel_rfl) (by simp) ?_
  refine AllReadyN.cons rfl (fun K hK => ?_) ?_
  ·go_simp
   refine hK.out _ _ ?_ (fun hHeld => ?_)
   ·(try dsimp only)
    first
     | (with_reducible assumption)
     | (refine cell_keep ?_ d0 <;> (first | exact hbw4 | exact hbw4.drew | (go_grown; done)))
   clear hK K
   (try change wpAnyN _ _ _ _ _ _ _ _ (Act.put _ (some 13) _) _)
   try (unfold Act.put; dsimp only)
   refine tk (i := 5) (v := ?_) rfl (by kernel_rfl) (fun _ _ _ h => h) (Or.inl ⟨by first | kernel_rfl | rfl, ?_⟩) (by assumption) ?_
   rotate_left
   focus intro w hSw; (try dsimp only at hSw); go_simp; try with_reducible rfl
   try (unfold Act.put; dsimp only)
   refine wpAnyN_done (by kernel_rfl) ?_ _
   obtain ⟨f0, f1, f2, f3, f4, f5⟩ := HD.out
   have e0 := cell_keep hbw4 f0
   have e1 := cell_keep hbw4 f1
   have e2 := cell_keep hbw4 f2
   have e3 := cell_keep hbw4 f3
   have e4 := cell_keep hbw4 f4
   have e5 := cell_keep hbw4 f5
   have HT5 := Lib.hid (HT4.out.below hbw4)
   have HB5 := Lib.hid (HB4.out.trans (hbw4.mono (Nat.le_of_lt HG4.out)))
   have HGW := Lib.hid (Nat.lt_of_lt_of_le HG4.out hbw4.size)
   clear f0 f1 f2 f3 f4 f5 hbw4 hnc hcs hb5
   go_wp2_with fail
   refine (itoa_any c _ HT5.out hc).mono ?_
   rintro e w6 ⟨rfl, hb6⟩
   have HB6 := Lib.hid (HB5.out.trans (hb6.mono (Nat.le_of_lt HGW.out)))
   have HG6 := Lib.hid (Nat.lt_of_lt_of_le HGW.out hb6.size)
   have HLN := Lib.hid (line_any (entName 4) _ 1 1 [decL c] (w6.alloc (.cells #[.string (bsA (decL c))] 9)) (rds_one w6 _ _) rfl (by omega) HJ.out)
   clear hb6
   go_wp2_with fail
   refine HLN.out.mono ?_
   rintro e w7 ⟨rfl, hb7⟩
   go_wp2
   go_ret2
   exact ⟨rfl, (HB6.out.alloc (Nat.le_of_lt HG6.out) _).trans (hb7.mono (by have := HG6.out; simp; omega))⟩
  exact AllReadyN.nil
 exact AllReadyN.nil
set_option maxRecDepth 100000 in
set_option maxHeartbeats 4000000 in
theorem entry_5 (c : Nat) (hc : c ≤ 99999999) (w : World) (hT : TxW w) (hf : entB 5 (c : Int) 0 0 0 0 = true) :
 Calls Tryz.prog 10 #[.agg #[.int .i64 5, .int .i64 c, .int .i64 0, .int .i64 0, .int .i64 0, .int .i64 0]] w fun e w' => e = .returned (.tuple #[.string (bsA (jnL 32 [entName 5, decL c])), .nilIface]) ∧ Below w.heap.size w w' := by
 have hbA : Below w.heap.size w (w.alloc (.cells #[.int .i64 5, .int .i64 c, .int .i64 0, .int .i64 0, .int .i64 0, .int .i64 0] 33)) := (Below.refl _ _).alloc (Nat.le_refl _) _
 have hok := entok_any 5 (c : Int) 0 0 0 0 (w.alloc (.cells #[.int .i64 5, .int .i64 c, .int .i64 0, .int .i64 0, .int .i64 0, .int .i64 0] 33))
 rw [hf] at hok
 have HF := Lib.hid hok
 have HJ := Lib.hid (show (jnL 32 [entName 5, decL c]).length ≤ 1000000 from by
  simp only [jnL, List.length_append, List.length_cons]
  have hnm : (entName 5).length ≤ 10 := by decide
  have s0 : (decL c).length ≤ 8 := dec_len8 hc
  omega)
 have HTA := Lib.hid (hT.below hbA)
 have HBA := Lib.hid hbA
 clear hT hf hbA hok
 go_enter Tryz.func10, Tryz.ntmps10
 go_wp2_with fail
 refine HF.out.mono ?_
 rintro e w4 ⟨rfl, hb4⟩
 have HT4 := Lib.hid (HTA.out.below hb4)
 have HB4 := Lib.hid (HBA.out.trans (hb4.mono HBA.out.size))
 have HG4 := Lib.hid (show w.heap.size < w4.heap.size from Nat.lt_of_lt_of_le (by simp) hb4.size)
 have d0 := cell_keep hb4 (b := w.heap.size) (o := 0) (u := .int .i64 5) (by simp)
 have d1 := cell_keep hb4 (b := w.heap.size) (o := 1) (u := .int .i64 c) (by simp)
 have d2 := cell_keep hb4 (b := w.heap.size) (o := 2) (u := .int .i64 0) (by simp)
 have d3 := cell_keep hb4 (b := w.heap.size) (o := 3) (u := .int .i64 0) (by simp)
 have d4 := cell_keep hb4 (b := w.heap.size) (o := 4) (u := .int .i64 0) (by simp)
 have d5 := cell_keep hb4 (b := w.heap.size) (o := 5) (u := .int .i64 0) (by simp)
 have HD := Lib.hid (And.intro d0 (And.intro d1 (And.intro d2 (And.intro d3 (And.intro d4 d5)))))
 clear hb4 HF HTA HBA d1 d2 d3 d4 d5
 go_wp2_with fail
 refine wp_region_N (S := (fun w' => w'.cell? ⟨w.heap.size, 0, none⟩ = some (.int .i64 5))) (fun i => true) (by kernel_rfl) ?_ (fun hHeld => ?_)
 ·(try dsimp only)
  first
   | (with_reducible assumption)
   | (refine cell_keep ?_ d0 <;> (first | exact hbw4 | exact hbw4.drew | (go_grown; done)))
 refine tk (i := 1) (v := ?_) rfl (by kernel_rfl) (fun _ _ _ h => h) (Or.inl ⟨by first | kernel_rfl | rfl, ?_⟩) (by assumption) ?_
 rotate_left
 focus intro w hSw; (try dsimp only at hSw); go_simp; try with_reducible rfl
 try (unfold Act.put; dsimp only)
 refine tk (i := 2) (v := ?_) rfl (by kernel_rfl) (fun _ _ _ h => h) (Or.inl ⟨by first | kernel_rfl | rfl, ?_⟩) (by assumption) ?_
 rotate_left
 focus intro w hSw; (try dsimp only at hSw); go_simp; try with_reducible rfl
 try (unfold Act.put; dsimp only)
 refine wpAnyN_ready (rs := [0]) (by kernel_rfl) (by simp) ?_
 refine AllReadyN.cons rfl (fun K hK => ?_) ?_
 ·go_simp
  go_at_call 28
  refine (names_at _).mono ?_
  rintro e w5 ⟨rfl, hcs, hb5⟩
  have hnc : w5.cell? ⟨w4.heap.size, 5, none⟩ = some (.string (bsA (entName 5))) := hcs 5 (by omega)
  have hbw4 : Below w4.heap.size w4 w5 := Below.trans (show Below w4.heap.size w4 _ by first | exact Below.refl _ _ | exact (Below.refl _ _).drew) (hb5.mono (by first | exact Nat.le_refl _ | (simp; done)))
  dsimp only
  refine hK.out _ _ ?_ (fun hHeld => ?_)
  ·(try dsimp only)
   first
    | (with_reducible assumption)
    | (refine cell_keep ?_ d0 <;> (first | exact hbw4 | exact hbw4.drew | (go_grown; done)))
  clear hK K
  (try change wpAnyN _ _ _ _ _ _ _ _ (Act.put _ (some 9) _) _)
  try (unfold Act.put; dsimp only)
  refine tk (i := 3) (v := ?_) rfl (by kernel_rfl) (fun _ _ _ h => h) (Or.inl ⟨by first | kernel_rfl | rfl, ?_⟩) (by assumption) ?_
  rotate_left
  focus intro w hSw; (try dsimp only at hSw); go_simp; try with_reducible rfl
  try (unfold Act.put; dsimp only)
  refine wpAnyN_ready (rs := [4]) (by kernel_rfl) (by simp) ?_
  refine AllReadyN.cons rfl (fun K hK => ?_) ?_
  ·go_simp
   refine hK.out _ _ ?_ (fun hHeld => ?_)
   ·(try dsimp only)
    first
     | (with_reducible assumption)
     | (refine cell_keep ?_ d0 <;> (first | exact hbw4 | exact hbw4.drew | (go_grown; done)))
   clear hK K
   (try change wpAnyN _ _ _ _ _ _ _ _ (Act.put _ (some 13) _) _)
   try (unfold Act.put; dsimp only)
   refine tk (i := 5) (v := ?_) rfl (by kernel_rfl) (fun _ _ _ h => h) (Or.inl ⟨by first | kernel_rfl | rfl, ?_⟩) (by assumption) ?_
   rotate_left
   focus intro w hSw; (try dsimp only at hSw); go_simp; try with_reducible rfl
   try (unfold Act.put; dsimp only)
   refine wpAnyN_done (by kernel_rfl) ?_ _
   obtain ⟨f0, f1, f2, f3, f4, f5⟩ := HD.out
   have e0 := cell_keep hbw4 f0
   have e1 := cell_keep hbw4 f1
   have e2 := cell_keep hbw4 f2
   have e3 := cell_keep hbw4 f3
   have e4 := cell_keep hbw4 f4
   have e5 := cell_keep hbw4 f5
   have HT5 := Lib.hid (HT4.out.below hbw4)
   have HB5 := Lib.hid (HB4.out.trans (hbw4.mono (Nat.le_of_lt HG4.out)))
   have HGW := Lib.hid (Nat.lt_of_lt_of_le HG4.out hbw4.size)
   clear f0 f1 f2 f3 f4 f5 hbw4 hnc hcs hb5
   go_wp2_with fail
   refine (itoa_any c _ HT5.out hc).mono ?_
   rintro e w6 ⟨rfl, hb6⟩
   have HB6 := Lib.hid (HB5.out.trans (hb6.mono (Nat.le_of_lt HGW.out)))
   have HG6 := Lib.hid (Nat.lt_of_lt_of_le HGW.out hb6.size)
   have HLN := Lib.hid (line_any (entName 5) _ 1 1 [decL c] (w6.alloc (.cells #[.string (bsA (decL c))] 9)) (rds_one w6 _ _) rfl (by omega) HJ.out)
   clear hb6
   go_wp2_with fail
   refine HLN.out.mono ?_
   rintro e w7 ⟨rfl, hb7⟩
   go_wp2
   go_ret2
   exact ⟨rfl, (HB6.out.alloc (Nat.le_of_lt HG6.out) _).trans (hb7.mono (by have := HG6.out; simp; omega))⟩
  exact AllReadyN.nil
 exact AllReadyN.nil
set_option maxRecDepth 100000 in
set_option maxHeartbeats 4000000 in
theorem entry_6 (c : Nat) (hc : c ≤ 99999999) (w : World) (hT : TxW w) (hf : entB 6 (c : Int) 0 0 0 0 = true) :
 Calls Tryz.prog 10 #[.agg #[.int .i64 6, .int .i64 c, .int .i64 0, .int .i64 0, .int .i64 0, .int .i64 0]] w fun e w' => e = .returned (.tuple #[.string (bsA (jnL 32 [entName 6, decL c])), .nilIface]) ∧ Below w.heap.size w w' := by
 have hbA : Below w.heap.size w (w.alloc (.cells #[.int .i64 6, .int .i64 c, .int .i64 0, .int .i64 0, .int .i64 0, .int .i64 0] 33)) := (Below.refl _ _).alloc (Nat.le_refl _) _
 have hok := entok_any 6 (c : Int) 0 0 0 0 (w.alloc (.cells #[.int .i64 6, .int .i64 c, .int .i64 0, .int .i64 0, .int .i64 0, .int .i64 0] 33))
 rw [hf] at hok
 have HF := Lib.hid hok
 have HJ := Lib.hid (show (jnL 32 [entName 6, decL c]).length ≤ 1000000 from by
  simp only [jnL, List.length_append, List.length_cons]
  have hnm : (entName 6).length ≤ 10 := by decide
  have s0 : (decL c).length ≤ 8 := dec_len8 hc
  omega)
 have HTA := Lib.hid (hT.below hbA)
 have HBA := Lib.hid hbA
 clear hT hf hbA hok
 go_enter Tryz.func10, Tryz.ntmps10
 go_wp2_with fail
 refine HF.out.mono ?_
 rintro e w4 ⟨rfl, hb4⟩
 have HT4 := Lib.hid (HTA.out.below hb4)
 have HB4 := Lib.hid (HBA.out.trans (hb4.mono HBA.out.size))
 have HG4 := Lib.hid (show w.heap.size < w4.heap.size from Nat.lt_of_lt_of_le (by simp) hb4.size)
 have d0 := cell_keep hb4 (b := w.heap.size) (o := 0) (u := .int .i64 6) (by simp)
 have d1 := cell_keep hb4 (b := w.heap.size) (o := 1) (u := .int .i64 c) (by simp)
 have d2 := cell_keep hb4 (b := w.heap.size) (o := 2) (u := .int .i64 0) (by simp)
 have d3 := cell_keep hb4 (b := w.heap.size) (o := 3) (u := .int .i64 0) (by simp)
 have d4 := cell_keep hb4 (b := w.heap.size) (o := 4) (u := .int .i64 0) (by simp)
 have d5 := cell_keep hb4 (b := w.heap.size) (o := 5) (u := .int .i64 0) (by simp)
 have HD := Lib.hid (And.intro d0 (And.intro d1 (And.intro d2 (And.intro d3 (And.intro d4 d5)))))
 clear hb4 HF HTA HBA d1 d2 d3 d4 d5
 go_wp2_with fail
 refine wp_region_N (S := (fun w' => w'.cell? ⟨w.heap.size, 0, none⟩ = some (.int .i64 6))) (fun i => true) (by kernel_rfl) ?_ (fun hHeld => ?_)
 ·(try dsimp only)
  first
   | (with_reducible assumption)
   | (refine cell_keep ?_ d0 <;> (first | exact hbw4 | exact hbw4.drew | (go_grown; done)))
 refine tk (i := 1) (v := ?_) rfl (by kernel_rfl) (fun _ _ _ h => h) (Or.inl ⟨by first | kernel_rfl | rfl, ?_⟩) (by assumption) ?_
 rotate_left
 focus intro w hSw; (try dsimp only at hSw); go_simp; try with_reducible rfl
 try (unfold Act.put; dsimp only)
 refine tk (i := 2) (v := ?_) rfl (by kernel_rfl) (fun _ _ _ h => h) (Or.inl ⟨by first | kernel_rfl | rfl, ?_⟩) (by assumption) ?_
 rotate_left
 focus intro w hSw; (try dsimp only at hSw); go_simp; try with_reducible rfl
 try (unfold Act.put; dsimp only)
 refine wpAnyN_ready (rs := [0]) (by kernel_rfl) (by simp) ?_
 refine AllReadyN.cons rfl (fun K hK => ?_) ?_
 ·go_simp
  go_at_call 28
  refine (names_at _).mono ?_
  rintro e w5 ⟨rfl, hcs, hb5⟩
  have hnc : w5.cell? ⟨w4.heap.size, 6, none⟩ = some (.string (bsA (entName 6))) := hcs 6 (by omega)
  have hbw4 : Below w4.heap.size w4 w5 := Below.trans (show Below w4.heap.size w4 _ by first | exact Below.refl _ _ | exact (Below.refl _ _).drew) (hb5.mono (by first | exact Nat.le_refl _ | (simp; done)))
  dsimp only
  refine hK.out _ _ ?_ (fun hHeld => ?_)
  ·(try dsimp only)
   first
    | (with_reducible assumption)
    | (refine cell_keep ?_ d0 <;> (first | exact hbw4 | exact hbw4.drew | (go_grown; done)))
  clear hK K
  (try change wpAnyN _ _ _ _ _ _ _ _ (Act.put _ (some 9) _) _)
  try (unfold Act.put; dsimp only)
  refine tk (i := 3) (v := ?_) rfl (by kernel_rfl) (fun _ _ _ h => h) (Or.inl ⟨by first | kernel_rfl | rfl, ?_⟩) (by assumption) ?_
  rotate_left
  focus intro w hSw; (try dsimp only at hSw); go_simp; try with_reducible rfl
  try (unfold Act.put; dsimp only)
  refine wpAnyN_ready (rs := [4]) (by kernel_rfl) (by simp) ?_
  refine AllReadyN.cons rfl (fun K hK => ?_) ?_
  ·go_simp
   refine hK.out _ _ ?_ (fun hHeld => ?_)
   ·(try dsimp only)
    first
     | (with_reducible assumption)
     | (refine cell_keep ?_ d0 <;> (first | exact hbw4 | exact hbw4.drew | (go_grown; done)))
   clear hK K
   (try change wpAnyN _ _ _ _ _ _ _ _ (Act.put _ (some 13) _) _)
   try (unfold Act.put; dsimp only)
   refine tk (i := 5) (v := ?_) rfl (by kernel_rfl) (fun _ _ _ h => h) (Or.inl ⟨by first | kernel_rfl | rfl, ?_⟩) (by assumption) ?_
   rotate_left
   focus intro w hSw; (try dsimp only at hSw); go_simp; try with_reducible rfl
   try (unfold Act.put; dsimp only)
   refine wpAnyN_done (by kernel_rfl) ?_ _
   obtain ⟨f0, f1, f2, f3, f4, f5⟩ := HD.out
   have e0 := cell_keep hbw4 f0
   have e1 := cell_keep hbw4 f1
   have e2 := cell_keep hbw4 f2
   have e3 := cell_keep hbw4 f3
   have e4 := cell_keep hbw4 f4
   have e5 := cell_keep hbw4 f5
   have HT5 := Lib.hid (HT4.out.below hbw4)
   have HB5 := Lib.hid (HB4.out.trans (hbw4.mono (Nat.le_of_lt HG4.out)))
   have HGW := Lib.hid (Nat.lt_of_lt_of_le HG4.out hbw4.size)
   clear f0 f1 f2 f3 f4 f5 hbw4 hnc hcs hb5
   go_wp2_with fail
   refine (itoa_any c _ HT5.out hc).mono ?_
   rintro e w6 ⟨rfl, hb6⟩
   have HB6 := Lib.hid (HB5.out.trans (hb6.mono (Nat.le_of_lt HGW.out)))
   have HG6 := Lib.hid (Nat.lt_of_lt_of_le HGW.out hb6.size)
   have HLN := Lib.hid (line_any (entName 6) _ 1 1 [decL c] (w6.alloc (.cells #[.string (bsA (decL c))] 9)) (rds_one w6 _ _) rfl (by omega) HJ.out)
   clear hb6
   go_wp2_with fail
   refine HLN.out.mono ?_
   rintro e w7 ⟨rfl, hb7⟩
   go_wp2
   go_ret2
   exact ⟨rfl, (HB6.out.alloc (Nat.le_of_lt HG6.out) _).trans (hb7.mono (by have := HG6.out; simp; omega))⟩
  exact AllReadyN.nil
 exact AllReadyN.nil
set_option maxRecDepth 100000 in
set_option maxHeartbeats 4000000 in
theorem entry_7 (p : Nat) (hp : p ≤ 99999999) (w : World) (hT : TxW w) (hf : entB 7 0 0 0 0 (p : Int) = true) :
 Calls Tryz.prog 10 #[.agg #[.int .i64 7, .int .i64 0, .int .i64 0, .int .i64 0, .int .i64 0, .int .i64 p]] w fun e w' => e = .returned (.tuple #[.string (bsA (jnL 32 [entName 7, decL p])), .nilIface]) ∧ Below w.heap.size w w' := by
 have hbA : Below w.heap.size w (w.alloc (.cells #[.int .i64 7, .int .i64 0, .int .i64 0, .int .i64 0, .int .i64 0, .int .i64 p] 33)) := (Below.refl _ _).alloc (Nat.le_refl _) _
 have hok := entok_any 7 0 0 0 0 (p : Int) (w.alloc (.cells #[.int .i64 7, .int .i64 0, .int .i64 0, .int .i64 0, .int .i64 0, .int .i64 p] 33))
 rw [hf] at hok
 have HF := Lib.hid hok
 have HJ := Lib.hid (show (jnL 32 [entName 7, decL p]).length ≤ 1000000 from by
  simp only [jnL, List.length_append, List.length_cons]
  have hnm : (entName 7).length ≤ 10 := by decide
  have s0 : (decL p).length ≤ 8 := dec_len8 hp
  omega)
 have HTA := Lib.hid (hT.below hbA)
 have HBA := Lib.hid hbA
 clear hT hf hbA hok
 go_enter Tryz.func10, Tryz.ntmps10
 go_wp2_with fail
 refine HF.out.mono ?_
 rintro e w4 ⟨rfl, hb4⟩
 have HT4 := Lib.hid (HTA.out.below hb4)
 have HB4 := Lib.hid (HBA.out.trans (hb4.mono HBA.out.size))
 have HG4 := Lib.hid (show w.heap.size < w4.heap.size from Nat.lt_of_lt_of_le (by simp) hb4.size)
 have d0 := cell_keep hb4 (b := w.heap.size) (o := 0) (u := .int .i64 7) (by simp)
 have d1 := cell_keep hb4 (b := w.heap.size) (o := 1) (u := .int .i64 0) (by simp)
 have d2 := cell_keep hb4 (b := w.heap.size) (o := 2) (u := .int .i64 0) (by simp)
 have d3 := cell_keep hb4 (b := w.heap.size) (o := 3) (u := .int .i64 0) (by simp)
 have d4 := cell_keep hb4 (b := w.heap.size) (o := 4) (u := .int .i64 0) (by simp)
 have d5 := cell_keep hb4 (b := w.heap.size) (o := 5) (u := .int .i64 p) (by simp)
 have HD := Lib.hid (And.intro d0 (And.intro d1 (And.intro d2 (And.intro d3 (And.intro d4 d5)))))
 clear hb4 HF HTA HBA d1 d2 d3 d4 d5
 go_wp2_with fail
 refine wp_region_N (S := (fun w' => w'.cell? ⟨w.heap.size, 0, none⟩ = some (.int .i64 7))) (fun i => true) (by kernel_rfl) ?_ (fun hHeld => ?_)
 ·(try dsimp only)
  first
   | (with_reducible assumption)
   | (refine cell_keep ?_ d0 <;> (first | exact hbw4 | exact hbw4.drew | (go_grown; done)))
 refine tk (i := 1) (v := ?_) rfl (by kernel_rfl) (fun _ _ _ h => h) (Or.inl ⟨by first | kernel_rfl | rfl, ?_⟩) (by assumption) ?_
 rotate_left
 focus intro w hSw; (try dsimp only at hSw); go_simp; try with_reducible rfl
 try (unfold Act.put; dsimp only)
 refine tk (i := 2) (v := ?_) rfl (by kernel_rfl) (fun _ _ _ h => h) (Or.inl ⟨by first | kernel_rfl | rfl, ?_⟩) (by assumption) ?_
 rotate_left
 focus intro w hSw; (try dsimp only at hSw); go_simp; try with_reducible rfl
 try (unfold Act.put; dsimp only)
 refine wpAnyN_ready (rs := [0]) (by kernel_rfl) (by simp) ?_
 refine AllReadyN.cons rfl (fun K hK => ?_) ?_
 ·go_simp
  go_at_call 28
  refine (names_at _).mono ?_
  rintro e w5 ⟨rfl, hcs, hb5⟩
  have hnc : w5.cell? ⟨w4.heap.size, 7, none⟩ = some (.string (bsA (entName 7))) := hcs 7 (by omega)
  have hbw4 : Below w4.heap.size w4 w5 := Below.trans (show Below w4.heap.size w4 _ by first | exact Below.refl _ _ | exact (Below.refl _ _).drew) (hb5.mono (by first | exact Nat.le_refl _ | (simp; done)))
  dsimp only
  refine hK.out _ _ ?_ (fun hHeld => ?_)
  ·(try dsimp only)
   first
    | (with_reducible assumption)
    | (refine cell_keep ?_ d0 <;> (first | exact hbw4 | exact hbw4.drew | (go_grown; done)))
  clear hK K
  (try change wpAnyN _ _ _ _ _ _ _ _ (Act.put _ (some 9) _) _)
  try (unfold Act.put; dsimp only)
  refine tk (i := 3) (v := ?_) rfl (by kernel_rfl) (fun _ _ _ h => h) (Or.inl ⟨by first | kernel_rfl | rfl, ?_⟩) (by assumption) ?_
  rotate_left
  focus intro w hSw; (try dsimp only at hSw); go_simp; try with_reducible rfl
  try (unfold Act.put; dsimp only)
  refine wpAnyN_ready (rs := [4]) (by kernel_rfl) (by simp) ?_
  refine AllReadyN.cons rfl (fun K hK => ?_) ?_
  ·go_simp
   refine hK.out _ _ ?_ (fun hHeld => ?_)
   ·(try dsimp only)
    first
     | (with_reducible assumption)
     | (refine cell_keep ?_ d0 <;> (first | exact hbw4 | exact hbw4.drew | (go_grown; done)))
   clear hK K
   (try change wpAnyN _ _ _ _ _ _ _ _ (Act.put _ (some 13) _) _)
   try (unfold Act.put; dsimp only)
   refine tk (i := 5) (v := ?_) rfl (by kernel_rfl) (fun _ _ _ h => h) (Or.inl ⟨by first | kernel_rfl | rfl, ?_⟩) (by assumption) ?_
   rotate_left
   focus intro w hSw; (try dsimp only at hSw); go_simp; try with_reducible rfl
   try (unfold Act.put; dsimp only)
   refine wpAnyN_done (by kernel_rfl) ?_ _
   obtain ⟨f0, f1, f2, f3, f4, f5⟩ := HD.out
   have e0 := cell_keep hbw4 f0
   have e1 := cell_keep hbw4 f1
   have e2 := cell_keep hbw4 f2
   have e3 := cell_keep hbw4 f3
   have e4 := cell_keep hbw4 f4
   have e5 := cell_keep hbw4 f5
   have HT5 := Lib.hid (HT4.out.below hbw4)
   have HB5 := Lib.hid (HB4.out.trans (hbw4.mono (Nat.le_of_lt HG4.out)))
   have HGW := Lib.hid (Nat.lt_of_lt_of_le HG4.out hbw4.size)
   clear f0 f1 f2 f3 f4 f5 hbw4 hnc hcs hb5
   go_wp2_with fail
   refine (itoa_any p _ HT5.out hp).mono ?_
   rintro e w6 ⟨rfl, hb6⟩
   have HB6 := Lib.hid (HB5.out.trans (hb6.mono (Nat.le_of_lt HGW.out)))
   have HG6 := Lib.hid (Nat.lt_of_lt_of_le HGW.out hb6.size)
   have HLN := Lib.hid (line_any (entName 7) _ 1 1 [decL p] (w6.alloc (.cells #[.string (bsA (decL p))] 9)) (rds_one w6 _ _) rfl (by omega) HJ.out)
   clear hb6
   go_wp2_with fail
   refine HLN.out.mono ?_
   rintro e w7 ⟨rfl, hb7⟩
   go_wp2
   go_ret2
   exact ⟨rfl, (HB6.out.alloc (Nat.le_of_lt HG6.out) _).trans (hb7.mono (by have := HG6.out; simp; omega))⟩
  exact AllReadyN.nil
 exact AllReadyN.nil
set_option maxRecDepth 100000 in
set_option maxHeartbeats 4000000 in
theorem entry_8 (p : Nat) (hp : p ≤ 99999999) (w : World) (hT : TxW w) (hf : entB 8 0 0 0 0 (p : Int) = true) :
 Calls Tryz.prog 10 #[.agg #[.int .i64 8, .int .i64 0, .int .i64 0, .int .i64 0, .int .i64 0, .int .i64 p]] w fun e w' => e = .returned (.tuple #[.string (bsA (jnL 32 [entName 8, decL p])), .nilIface]) ∧ Below w.heap.size w w' := by
 have hbA : Below w.heap.size w (w.alloc (.cells #[.int .i64 8, .int .i64 0, .int .i64 0, .int .i64 0, .int .i64 0, .int .i64 p] 33)) := (Below.refl _ _).alloc (Nat.le_refl _) _
 have hok := entok_any 8 0 0 0 0 (p : Int) (w.alloc (.cells #[.int .i64 8, .int .i64 0, .int .i64 0, .int .i64 0, .int .i64 0, .int .i64 p] 33))
 rw [hf] at hok
 have HF := Lib.hid hok
 have HJ := Lib.hid (show (jnL 32 [entName 8, decL p]).length ≤ 1000000 from by
  simp only [jnL, List.length_append, List.length_cons]
  have hnm : (entName 8).length ≤ 10 := by decide
  have s0 : (decL p).length ≤ 8 := dec_len8 hp
  omega)
 have HTA := Lib.hid (hT.below hbA)
 have HBA := Lib.hid hbA
 clear hT hf hbA hok
 go_enter Tryz.func10, Tryz.ntmps10
 go_wp2_with fail
 refine HF.out.mono ?_
 rintro e w4 ⟨rfl, hb4⟩
 have HT4 := Lib.hid (HTA.out.below hb4)
 have HB4 := Lib.hid (HBA.out.trans (hb4.mono HBA.out.size))
 have HG4 := Lib.hid (show w.heap.size < w4.heap.size from Nat.lt_of_lt_of_le (by simp) hb4.size)
 have d0 := cell_keep hb4 (b := w.heap.size) (o := 0) (u := .int .i64 8) (by simp)
 have d1 := cell_keep hb4 (b := w.heap.size) (o := 1) (u := .int .i64 0) (by simp)
 have d2 := cell_keep hb4 (b := w.heap.size) (o := 2) (u := .int .i64 0) (by simp)
 have d3 := cell_keep hb4 (b := w.heap.size) (o := 3) (u := .int .i64 0) (by simp)
 have d4 := cell_keep hb4 (b := w.heap.size) (o := 4) (u := .int .i64 0) (by simp)
 have d5 := cell_keep hb4 (b := w.heap.size) (o := 5) (u := .int .i64 p) (by simp)
 have HD := Lib.hid (And.intro d0 (And.intro d1 (And.intro d2 (And.intro d3 (And.intro d4 d5)))))
 clear hb4 HF HTA HBA d1 d2 d3 d4 d5
 go_wp2_with fail
 refine wp_region_N (S := (fun w' => w'.cell? ⟨w.heap.size, 0, none⟩ = some (.int .i64 8))) (fun i => true) (by kernel_rfl) ?_ (fun hHeld => ?_)
 ·(try dsimp only)
  first
   | (with_reducible assumption)
   | (refine cell_keep ?_ d0 <;> (first | exact hbw4 | exact hbw4.drew | (go_grown; done)))
 refine tk (i := 1) (v := ?_) rfl (by kernel_rfl) (fun _ _ _ h => h) (Or.inl ⟨by first | kernel_rfl | rfl, ?_⟩) (by assumption) ?_
 rotate_left
 focus intro w hSw; (try dsimp only at hSw); go_simp; try with_reducible rfl
 try (unfold Act.put; dsimp only)
 refine tk (i := 2) (v := ?_) rfl (by kernel_rfl) (fun _ _ _ h => h) (Or.inl ⟨by first | kernel_rfl | rfl, ?_⟩) (by assumption) ?_
 rotate_left
 focus intro w hSw; (try dsimp only at hSw); go_simp; try with_reducible rfl
 try (unfold Act.put; dsimp only)
 refine wpAnyN_ready (rs := [0]) (by kernel_rfl) (by simp) ?_
 refine AllReadyN.cons rfl (fun K hK => ?_) ?_
 ·go_simp
  go_at_call 28
  refine (names_at _).mono ?_
  rintro e w5 ⟨rfl, hcs, hb5⟩
  have hnc : w5.cell? ⟨w4.heap.size, 8, none⟩ = some (.string (bsA (entName 8))) := hcs 8 (by omega)
  have hbw4 : Below w4.heap.size w4 w5 := Below.trans (show Below w4.heap.size w4 _ by first | exact Below.refl _ _ | exact (Below.refl _ _).drew) (hb5.mono (by first | exact Nat.le_refl _ | (simp; done)))
  dsimp only
  refine hK.out _ _ ?_ (fun hHeld => ?_)
  ·(try dsimp only)
   first
    | (with_reducible assumption)
    | (refine cell_keep ?_ d0 <;> (first | exact hbw4 | exact hbw4.drew | (go_grown; done)))
  clear hK K
  (try change wpAnyN _ _ _ _ _ _ _ _ (Act.put _ (some 9) _) _)
  try (unfold Act.put; dsimp only)
  refine tk (i := 3) (v := ?_) rfl (by kernel_rfl) (fun _ _ _ h => h) (Or.inl ⟨by first | kernel_rfl | rfl, ?_⟩) (by assumption) ?_
  rotate_left
  focus intro w hSw; (try dsimp only at hSw); go_simp; try with_reducible rfl
  try (unfold Act.put; dsimp only)
  refine wpAnyN_ready (rs := [4]) (by kernel_rfl) (by simp) ?_
  refine AllReadyN.cons rfl (fun K hK => ?_) ?_
  ·go_simp
   refine hK.out _ _ ?_ (fun hHeld => ?_)
   ·(try dsimp only)
    first
     | (with_reducible assumption)
     | (refine cell_keep ?_ d0 <;> (first | exact hbw4 | exact hbw4.drew | (go_grown; done)))
   clear hK K
   (try change wpAnyN _ _ _ _ _ _ _ _ (Act.put _ (some 13) _) _)
   try (unfold Act.put; dsimp only)
   refine tk (i := 5) (v := ?_) rfl (by kernel_rfl) (fun _ _ _ h => h) (Or.inl ⟨by first | kernel_rfl | rfl, ?_⟩) (by assumption) ?_
   rotate_left
   focus intro w hSw; (try dsimp only at hSw); go_simp; try with_reducible rfl
   try (unfold Act.put; dsimp only)
   refine wpAnyN_done (by kernel_rfl) ?_ _
   obtain ⟨f0, f1, f2, f3, f4, f5⟩ := HD.out
   have e0 := cell_keep hbw4 f0
   have e1 := cell_keep hbw4 f1
   have e2 := cell_keep hbw4 f2
   have e3 := cell_keep hbw4 f3
   have e4 := cell_keep hbw4 f4
   have e5 := cell_keep hbw4 f5
   have HT5 := Lib.hid (HT4.out.below hbw4)
   have HB5 := Lib.hid (HB4.out.trans (hbw4.mono (Nat.le_of_lt HG4.out)))
   have HGW := Lib.hid (Nat.lt_of_lt_of_le HG4.out hbw4.size)
   clear f0 f1 f2 f3 f4 f5 hbw4 hnc hcs hb5
   go_wp2_with fail
   refine (itoa_any p _ HT5.out hp).mono ?_
   rintro e w6 ⟨rfl, hb6⟩
   have HB6 := Lib.hid (HB5.out.trans (hb6.mono (Nat.le_of_lt HGW.out)))
   have HG6 := Lib.hid (Nat.lt_of_lt_of_le HGW.out hb6.size)
   have HLN := Lib.hid (line_any (entName 8) _ 1 1 [decL p] (w6.alloc (.cells #[.string (bsA (decL p))] 9)) (rds_one w6 _ _) rfl (by omega) HJ.out)
   clear hb6
   go_wp2_with fail
   refine HLN.out.mono ?_
   rintro e w7 ⟨rfl, hb7⟩
   go_wp2
   go_ret2
   exact ⟨rfl, (HB6.out.alloc (Nat.le_of_lt HG6.out) _).trans (hb7.mono (by have := HG6.out; simp; omega))⟩
  exact AllReadyN.nil
 exact AllReadyN.nil
set_option maxRecDepth 100000 in
set_option maxHeartbeats 4000000 in
theorem entry_9 (p : Nat) (hp : p ≤ 99999999) (w : World) (hT : TxW w) (hf : entB 9 0 0 0 0 (p : Int) = true) :
 Calls Tryz.prog 10 #[.agg #[.int .i64 9, .int .i64 0, .int .i64 0, .int .i64 0, .int .i64 0, .int .i64 p]] w fun e w' => e = .returned (.tuple #[.string (bsA (jnL 32 [entName 9, decL p])), .nilIface]) ∧ Below w.heap.size w w' := by
 have hbA : Below w.heap.size w (w.alloc (.cells #[.int .i64 9, .int .i64 0, .int .i64 0, .int .i64 0, .int .i64 0, .int .i64 p] 33)) := (Below.refl _ _).alloc (Nat.le_refl _) _
 have hok := entok_any 9 0 0 0 0 (p : Int) (w.alloc (.cells #[.int .i64 9, .int .i64 0, .int .i64 0, .int .i64 0, .int .i64 0, .int .i64 p] 33))
 rw [hf] at hok
 have HF := Lib.hid hok
 have HJ := Lib.hid (show (jnL 32 [entName 9, decL p]).length ≤ 1000000 from by
  simp only [jnL, List.length_append, List.length_cons]
  have hnm : (entName 9).length ≤ 10 := by decide
  have s0 : (decL p).length ≤ 8 := dec_len8 hp
  omega)
 have HTA := Lib.hid (hT.below hbA)
 have HBA := Lib.hid hbA
 clear hT hf hbA hok
 go_enter Tryz.func10, Tryz.ntmps10
 go_wp2_with fail
 refine HF.out.mono ?_
 rintro e w4 ⟨rfl, hb4⟩
 have HT4 := Lib.hid (HTA.out.below hb4)
 have HB4 := Lib.hid (HBA.out.trans (hb4.mono HBA.out.size))
 have HG4 := Lib.hid (show w.heap.size < w4.heap.size from Nat.lt_of_lt_of_le (by simp) hb4.size)
 have d0 := cell_keep hb4 (b := w.heap.size) (o := 0) (u := .int .i64 9) (by simp)
 have d1 := cell_keep hb4 (b := w.heap.size) (o := 1) (u := .int .i64 0) (by simp)
 have d2 := cell_keep hb4 (b := w.heap.size) (o := 2) (u := .int .i64 0) (by simp)
 have d3 := cell_keep hb4 (b := w.heap.size) (o := 3) (u := .int .i64 0) (by simp)
 have d4 := cell_keep hb4 (b := w.heap.size) (o := 4) (u := .int .i64 0) (by simp)
 have d5 := cell_keep hb4 (b := w.heap.size) (o := 5) (u := .int .i64 p) (by simp)
 have HD := Lib.hid (And.intro d0 (And.intro d1 (And.intro d2 (And.intro d3 (And.intro d4 d5)))))
 clear hb4 HF HTA HBA d1 d2 d3 d4 d5
 go_wp2_with fail
 refine wp_region_N (S := (fun w' => w'.cell? ⟨w.heap.size, 0, none⟩ = some (.int .i64 9))) (fun i => true) (by kernel_rfl) ?_ (fun hHeld => ?_)
 ·(try dsimp only)
  first
   | (with_reducible assumption)
   | (refine cell_keep ?_ d0 <;> (first | exact hbw4 | exact hbw4.drew | (go_grown; done)))
 refine tk (i := 1) (v := ?_) rfl (by kernel_rfl) (fun _ _ _ h => h) (Or.inl ⟨by first | kernel_rfl | rfl, ?_⟩) (by assumption) ?_
 rotate_left
 focus intro w hSw; (try dsimp only at hSw); go_simp; try with_reducible rfl
 try (unfold Act.put; dsimp only)
 refine tk (i := 2) (v := ?_) rfl (by kernel_rfl) (fun _ _ _ h => h) (Or.inl ⟨by first | kernel_rfl | rfl, ?_⟩) (by assumption) ?_
 rotate_left
 focus intro w hSw; (try dsimp only at hSw); go_simp; try with_reducible rfl
 try (unfold Act.put; dsimp only)
 refine wpAnyN_ready (rs := [0]) (by kernel_rfl) (by simp) ?_
 refine AllReadyN.cons rfl (fun K hK => ?_) ?_
 ·go_simp
  go_at_call 28
  refine (names_at _).mono ?_
  rintro e w5 ⟨rfl, hcs, hb5⟩
  have hnc : w5.cell? ⟨w4.heap.size, 9, none⟩ = some (.string (bsA (entName 9))) := hcs 9 (by omega)
  have hbw4 : Below w4.heap.size w4 w5 := Below.trans (show Below w4.heap.size w4 _ by first | exact Below.refl _ _ | exact (Below.refl _ _).drew) (hb5.mono (by first | exact Nat.le_refl _ | (simp; done)))
  dsimp only
  refine hK.out _ _ ?_ (fun hHeld => ?_)
  ·(try dsimp only)
   first
    | (with_reducible assumption)
    | (refine cell_keep ?_ d0 <;> (first | exact hbw4 | exact hbw4.drew | (go_grown; done)))
  clear hK K
  (try change wpAnyN _ _ _ _ _ _ _ _ (Act.put _ (some 9) _) _)
  try (unfold Act.put; dsimp only)
  refine tk (i := 3) (v := ?_) rfl (by kernel_rfl) (fun _ _ _ h => h) (Or.inl ⟨by first | kernel_rfl | rfl, ?_⟩) (by assumption) ?_
  rotate_left
  focus intro w hSw; (try dsimp only at hSw); go_simp; try with_reducible rfl
  try (unfold Act.put; dsimp only)
  refine wpAnyN_ready (rs := [4]) (by kernel_rfl) (by simp) ?_
  refine AllReadyN.cons rfl (fun K hK => ?_) ?_
  ·go_simp
   refine hK.out _ _ ?_ (fun hHeld => ?_)
   ·(try dsimp only)
    first
     | (with_reducible assumption)
     | (refine cell_keep ?_ d0 <;> (first | exact hbw4 | exact hbw4.drew | (go_grown; done)))
   clear hK K
   (try change wpAnyN _ _ _ _ _ _ _ _ (Act.put _ (some 13) _) _)
   try (unfold Act.put; dsimp only)
   refine tk (i := 5) (v := ?_) rfl (by kernel_rfl) (fun _ _ _ h => h) (Or.inl ⟨by first | kernel_rfl | rfl, ?_⟩) (by assumption) ?_
   rotate_left
   focus intro w hSw; (try dsimp only at hSw); go_simp; try with_reducible rfl
   try (unfold Act.put; dsimp only)
   refine wpAnyN_done (by kernel_rfl) ?_ _
   obtain ⟨f0, f1, f2, f3, f4, f5⟩ := HD.out
   have e0 := cell_keep hbw4 f0
   have e1 := cell_keep hbw4 f1
   have e2 := cell_keep hbw4 f2
   have e3 := cell_keep hbw4 f3
   have e4 := cell_keep hbw4 f4
   have e5 := cell_keep hbw4 f5
   have HT5 := Lib.hid (HT4.out.below hbw4)
   have HB5 := Lib.hid (HB4.out.trans (hbw4.mono (Nat.le_of_lt HG4.out)))
   have HGW := Lib.hid (Nat.lt_of_lt_of_le HG4.out hbw4.size)
   clear f0 f1 f2 f3 f4 f5 hbw4 hnc hcs hb5
   go_wp2_with fail
   refine (itoa_any p _ HT5.out hp).mono ?_
   rintro e w6 ⟨rfl, hb6⟩
   have HB6 := Lib.hid (HB5.out.trans (hb6.mono (Nat.le_of_lt HGW.out)))
   have HG6 := Lib.hid (Nat.lt_of_lt_of_le HGW.out hb6.size)
   have HLN := Lib.hid (line_any (entName 9) _ 1 1 [decL p] (w6.alloc (.cells #[.string (bsA (decL p))] 9)) (rds_one w6 _ _) rfl (by omega) HJ.out)
   clear hb6
   go_wp2_with fail
   refine HLN.out.mono ?_
   rintro e w7 ⟨rfl, hb7⟩
   go_wp2
   go_ret2
   exact ⟨rfl, (HB6.out.alloc (Nat.le_of_lt HG6.out) _).trans (hb7.mono (by have := HG6.out; simp; omega))⟩
  exact AllReadyN.nil
 exact AllReadyN.nil
end Go.Proofs.YtjpjlfjaapfnkaaGreatDoor
namespace Go.Proofs.YtjpjlfjaapfnkaaGreatDoor
open Go.ChangeShapes Go.WideShapes Go.ChangeAt Go.RowKit
open C20 (Ev formB evC)
def errV (k : Int) : Value := if k = 0 then .nilIface else .iface 70 (.int .i64 k)
theorem event_ok (e : Ev) (h : evOk e = true) (w : World) (hT : TxW w) :
 Calls Tryz.prog 16 #[.agg (evC e)] w fun r w' => r = .returned (.tuple #[.string (bsA (evT e)), .nilIface]) ∧ Below w.heap.size w w' := by
 unfold evOk at h
 rw [Bool.and_eq_true, decide_eq_true_eq] at h
 obtain ⟨hf, hx⟩ := h
 have hff := hf
 unfold evT
 rcases form_cases hf with ⟨q, a, b, c⟩ | ⟨hk, q, a, b, c, d⟩ | ⟨q, a, b, c, d⟩ | ⟨hk, q, a⟩ | ⟨q, a, b, c⟩ | ⟨q, b, c⟩
 ·rw [q] at hff ⊢
  generalize e.tx = x at *
  generalize e.client = cl at *
  obtain ⟨n, rfl⟩ := Int.eq_ofNat_of_zero_le (show 0 ≤ x by omega)
  obtain ⟨m, rfl⟩ := Int.eq_ofNat_of_zero_le (show 0 ≤ cl by omega)
  exact event_1 n m (by omega) (by omega) w hT hff
 ·rw [q] at hff ⊢
  generalize e.tx = x at *
  generalize e.table = t at *
  generalize e.row = r at *
  generalize e.mode = m at *
  generalize e.kind = k at *
  obtain ⟨n, rfl⟩ := Int.eq_ofNat_of_zero_le (show 0 ≤ x by omega)
  obtain ⟨t, rfl⟩ := Int.eq_ofNat_of_zero_le (show 0 ≤ t by omega)
  obtain ⟨r, rfl⟩ := Int.eq_ofNat_of_zero_le (show 0 ≤ r by omega)
  obtain ⟨m, rfl⟩ := Int.eq_ofNat_of_zero_le (show 0 ≤ m by omega)
  rcases hk with rfl | rfl
  ·exact event_2 n t r m (by omega) (by omega) (by omega) (by omega) w hT hff
  ·exact event_3 n t r m (by omega) (by omega) (by omega) (by omega) w hT hff
 ·rw [q] at hff ⊢
  generalize e.tx = x at *
  generalize e.table = t at *
  generalize e.row = r at *
  generalize e.code = y at *
  obtain ⟨n, rfl⟩ := Int.eq_ofNat_of_zero_le (show 0 ≤ x by omega)
  obtain ⟨t, rfl⟩ := Int.eq_ofNat_of_zero_le (show 0 ≤ t by omega)
  obtain ⟨r, rfl⟩ := Int.eq_ofNat_of_zero_le (show 0 ≤ r by omega)
  obtain ⟨y, rfl⟩ := Int.eq_ofNat_of_zero_le (show 0 ≤ y by omega)
  exact event_4 n t r y (by omega) (by omega) (by omega) (by omega) w hT hff
 ·rw [q] at hff ⊢
  generalize e.tx = x at *
  generalize e.kind = k at *
  obtain ⟨n, rfl⟩ := Int.eq_ofNat_of_zero_le (show 0 ≤ x by omega)
  rcases hk with rfl | rfl
  ·exact event_5 n (by omega) w hT hff
  ·exact event_6 n (by omega) w hT hff
 ·rw [q] at hff ⊢
  generalize e.tx = x at *
  generalize e.code = y at *
  obtain ⟨n, rfl⟩ := Int.eq_ofNat_of_zero_le (show 0 ≤ x by omega)
  obtain ⟨y, rfl⟩ := Int.eq_ofNat_of_zero_le (show 0 ≤ y by omega)
  exact event_7 n y (by omega) (by omega) w hT hff
 ·rw [q] at hff ⊢
  generalize e.client = cl at *
  obtain ⟨n, rfl⟩ := Int.eq_ofNat_of_zero_le (show 0 ≤ cl by omega)
  exact event_8 n (by omega) w hT hff
set_option maxHeartbeats 1000000 in
theorem event_any (e : Ev) (w : World) (hT : TxW w) :
 Calls Tryz.prog 16 #[.agg (evC e)] w fun r w' => r = .returned (.tuple #[.string (bsA (evS e)), errV (evE e)]) ∧ Below w.heap.size w w' := by
 by_cases hok : evOk e = true
 ·have := event_ok e hok w hT
  rw [show evS e = evT e from if_pos hok, evE_ok hok]
  exact this
 ·have HS := Lib.hid (show evS e = [] from if_neg hok)
  have HF := Lib.hid (fun W => form_any e W)
  rcases evE_no hok with he | he
  ·have HE := Lib.hid he
   have hff : formB e = false := by
    unfold evE at he
    cases hf : formB e with
    | false => rfl
    | true =>
     rw [hf] at he
     by_cases q : 99999999 < e.tx <;> simp [q] at he
   rw [hff] at HF
   clear hff he hok hT
   obtain ⟨k, c, x, t, r, m, q⟩ := e
   unfold evC at HF ⊢
   simp only at HF ⊢
   go_enter Tryz.func16, Tryz.ntmps16
   go_wp2_with fail
   refine (HF.out _).mono ?_
   rintro e w5 ⟨rfl, hb5⟩
   go_wp2
   go_ret2
   exact ⟨by rw [HS.out, HE.out]; rfl, ((Below.refl _ _).alloc (Nat.le_refl _) _).trans (hb5.mono (by simp))⟩
  ·have HE := Lib.hid he
   have hff : formB e = true ∧ 99999999 < e.tx := by
    unfold evE at he
    cases hf : formB e with
    | false => rw [hf] at he; simp at he
    | true =>
     rw [hf] at he
     by_cases q : 99999999 < e.tx
     ·exact ⟨rfl, q⟩
     ·simp [q] at he
   obtain ⟨hf1, hx⟩ := hff
   rw [hf1] at HF
   clear hf1 he hok hT
   obtain ⟨k, c, x, t, r, m, q⟩ := e
   simp only at hx
   unfold evC at HF ⊢
   simp only at HF ⊢
   go_enter Tryz.func16, Tryz.ntmps16
   go_wp2_with fail
   refine (HF.out _).mono ?_
   rintro e w5 ⟨rfl, hb5⟩
   have e2 := cell_keep hb5 (b := w.heap.size) (o := 2) (u := .int .i64 x) (by simp)
   go_wp2
   go_ret2
   exact ⟨by rw [HS.out, HE.out]; rfl, ((Below.refl _ _).alloc (Nat.le_refl _) _).trans (hb5.mono (by simp))⟩
end Go.Proofs.YtjpjlfjaapfnkaaGreatDoor
namespace Go.Proofs.YtjpjlfjaapfnkaaGreatDoor
open Go.ChangeShapes Go.WideShapes Go.ChangeAt Go.RowKit
def entA (e : Ent) : Array Value := #[.int .i64 e.k, .int .i64 e.c, .int .i64 e.t, .int .i64 e.r, .int .i64 e.m, .int .i64 e.p]
def entS (e : Ent) : List UInt8 := if e.may = true then entT e else []
def entE (e : Ent) : Int := if e.may = true then 0 else 5
theorem entry_ok (e : Ent) (h : e.may = true) (w : World) (hT : TxW w) :
 Calls Tryz.prog 10 #[.agg (entA e)] w fun r w' => r = .returned (.tuple #[.string (bsA (entT e)), .nilIface]) ∧ Below w.heap.size w w' := by
 have hff := h
 unfold entT
 rcases may_cases h with ⟨hk, q⟩ | ⟨q, a1, a2, b1, b2, c1, c2, d1, d2⟩ | ⟨hk, q, a1, a2⟩ | ⟨hk, q, a1, a2⟩
 ·rw [q] at hff ⊢
  generalize e.k = k at *
  rcases hk with rfl | rfl
  ·exact entry_0 w hT hff
  ·exact entry_1 w hT hff
 ·rw [q] at hff ⊢
  generalize e.c = x at *
  generalize e.t = t at *
  generalize e.r = r at *
  generalize e.m = m at *
  obtain ⟨n, rfl⟩ := Int.eq_ofNat_of_zero_le (show 0 ≤ x by omega)
  obtain ⟨t, rfl⟩ := Int.eq_ofNat_of_zero_le (show 0 ≤ t by omega)
  obtain ⟨r, rfl⟩ := Int.eq_ofNat_of_zero_le (show 0 ≤ r by omega)
  obtain ⟨m, rfl⟩ := Int.eq_ofNat_of_zero_le (show 0 ≤ m by omega)
  exact entry_3 n t r m (by omega) (by omega) (by omega) (by omega) w hT hff
 ·rw [q] at hff ⊢
  generalize e.c = x at *
  generalize e.k = k at *
  obtain ⟨n, rfl⟩ := Int.eq_ofNat_of_zero_le (show 0 ≤ x by omega)
  rcases hk with rfl | rfl | rfl | rfl
  ·exact entry_2 n (by omega) w hT hff
  ·exact entry_4 n (by omega) w hT hff
  ·exact entry_5 n (by omega) w hT hff
  ·exact entry_6 n (by omega) w hT hff
 ·rw [q] at hff ⊢
  generalize e.p = x at *
  generalize e.k = k at *
  obtain ⟨n, rfl⟩ := Int.eq_ofNat_of_zero_le (show 0 ≤ x by omega)
  rcases hk with rfl | rfl | rfl
  ·exact entry_7 n (by omega) w hT hff
  ·exact entry_8 n (by omega) w hT hff
  ·exact entry_9 n (by omega) w hT hff
set_option maxHeartbeats 1000000 in
theorem entry_any (e : Ent) (w : World) (hT : TxW w) :
 Calls Tryz.prog 10 #[.agg (entA e)] w fun r w' => r = .returned (.tuple #[.string (bsA (entS e)), errV (entE e)]) ∧ Below w.heap.size w w' := by
 by_cases hok : e.may = true
 ·have := entry_ok e hok w hT
  rw [show entS e = entT e from if_pos hok, show entE e = 0 from if_pos hok]
  exact this
 ·have HS := Lib.hid (show entS e = [] from if_neg hok)
  have HE := Lib.hid (show entE e = 5 from if_neg hok)
  have HF := Lib.hid (fun W => entok_any e.k e.c e.t e.r e.m e.p W)
  have hff : entB e.k e.c e.t e.r e.m e.p = false := by
   cases hf : entB e.k e.c e.t e.r e.m e.p with
   | false => rfl
   | true => exact absurd hf hok
  rw [hff] at HF
  clear hff hok hT
  obtain ⟨k, c, t, r, m, p⟩ := e
  unfold entA
  simp only at HF ⊢
  go_enter Tryz.func10, Tryz.ntmps10
  go_wp2_with fail
  refine (HF.out _).mono ?_
  rintro e w5 ⟨rfl, hb5⟩
  go_wp2
  go_ret2
  exact ⟨by rw [HS.out, HE.out]; rfl, ((Below.refl _ _).alloc (Nat.le_refl _) _).trans (hb5.mono (by simp))⟩
end Go.Proofs.YtjpjlfjaapfnkaaGreatDoor

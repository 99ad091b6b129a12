/-
  The document's Entry. No conditions beyond those that each theorem states.
-/
import Derived.Test.YtjpjlfjaapfnkaaGreatDoorDMN
import Derived.Test.YtjpjlfjaapfnkaaGreatDoorDMT
import Derived.Test.YtjpjlfjaapfnkaaGreatDoorDMD
import Derived.Test.YtjpjlfjaapfnkaaGreatDoorDMC
set_option linter.unusedVariables false
set_option linter.unusedSimpArgs false
namespace Go.Proofs.YtjpjlfjaapfnkaaGreatDoor
open Go.ChangeShapes Go.WideShapes Go.ChangeAt Go.RowKit
set_option maxRecDepth 100000 in
set_option maxHeartbeats 4000000 in
theorem rentry_0  (w : World) (hf : entB 0 0 0 0 0 0 = true) :
 Calls Tryz.prog 12 #[.agg #[.int .i64 0, .int .i64 0, .int .i64 0, .int .i64 0, .int .i64 0, .int .i64 0]] w fun e w' => e = .returned (.tuple #[.string (bsA (jnL 32 [entName 0])), .bool true]) ∧ Below w.heap.size w w' := by
 have hbA : Below w.heap.size w (w.alloc (.cells #[.int .i64 0, .int .i64 0, .int .i64 0, .int .i64 0, .int .i64 0, .int .i64 0] 25)) := (Below.refl _ _).alloc (Nat.le_refl _) _
 have HF := Lib.hid (fun W => bytes_yes 0 0 0 0 0 0 W hf)
 have sN : (bsA (entName 0)).size ≤ 8 := by decide
 have HT := Lib.hid (show bsA (entName 0) = bsA (jnL 32 [entName 0]) from rfl)
 obtain ⟨NN, hNN⟩ : ∃ d, bsA (entName 0) = d := ⟨_, rfl⟩
 rw [hNN] at HT sN
 clear sN
 have HBA := Lib.hid hbA
 clear hf hbA
 go_enter Tryz.func12, Tryz.ntmps12
 go_wp2_with fail
 refine (HF.out _).mono ?_
 rintro e w4 ⟨⟨A, rfl, hrd⟩, hb4⟩
 clear hrd
 have HB4 := Lib.hid (HBA.out.trans (hb4.mono HBA.out.size))
 have HG4 := Lib.hid (show w.heap.size < w4.heap.size from Nat.lt_of_lt_of_le (by simp) hb4.size)
 have g0 := cell_keep hb4 (b := w.heap.size) (o := 0) (u := .int .i64 0) (by simp)
 have g1 := cell_keep hb4 (b := w.heap.size) (o := 1) (u := .int .i64 0) (by simp)
 have g2 := cell_keep hb4 (b := w.heap.size) (o := 2) (u := .int .i64 0) (by simp)
 have g3 := cell_keep hb4 (b := w.heap.size) (o := 3) (u := .int .i64 0) (by simp)
 have g4 := cell_keep hb4 (b := w.heap.size) (o := 4) (u := .int .i64 0) (by simp)
 have g5 := cell_keep hb4 (b := w.heap.size) (o := 5) (u := .int .i64 0) (by simp)
 have HD := Lib.hid (And.intro g0 (And.intro g1 (And.intro g2 (And.intro g3 (And.intro g4 g5)))))
 clear hb4 HF HBA g1 g2 g3 g4 g5
 go_wp2_with fail
 refine wp_region_N (S := (fun w' => w'.cell? ⟨w.heap.size, 0, none⟩ = some (.int .i64 0))) (fun i => true) (by kernel_rfl) ?_ (fun hHeld => ?_)
 ·(try dsimp only)
  first
   | (with_reducible assumption)
   | (refine cell_keep ?_ g0 <;> (first | exact hbw4 | exact hbw4.drew | (go_grown; done)))
 refine tk (i := 1) (v := ?_) rfl (by kernel_rfl) (fun _ _ _ h => h) (Or.inl ⟨by first | kernel_rfl | rfl, ?_⟩) (by assumption) ?_
 rotate_left
 focus intro w hSw; (try dsimp only at hSw); go_simp; try with_reducible rfl
 try (unfold Act.put; dsimp only)
 refine tk (i := 2) (v := ?_) rfl (by kernel_rfl) (fun _ _ _ h => h) (Or.inl ⟨by first | kernel_rfl | rfl, ?_⟩) (by assumption) ?_
 rotate_left
 focus intro w hSw; (try dsimp only at hSw); go_simp; try with_reducible rfl
 try (unfold Act.put; dsimp only)
 refine wpAnyN_ready (rs := [0]) (by kernel_rfl) (by simp) ?_
 refine AllReadyN.cons rfl (fun K hK => ?_) ?_
 ·go_simp
  go_at_call 34
  refine (rnames_at _).mono ?_
  rintro e w5 ⟨rfl, hcs, hb5⟩
  have hnc : w5.cell? ⟨w4.heap.size, 0, none⟩ = some (.string NN) := by rw [← hNN]; exact hcs 0 (by omega)
  have hbw4 : Below w4.heap.size w4 w5 := Below.trans (show Below w4.heap.size w4 _ by first | exact Below.refl _ _ | exact (Below.refl _ _).drew) (hb5.mono (by first | exact Nat.le_refl _ | (simp; done)))
  dsimp only
  refine hK.out _ _ ?_ (fun hHeld => ?_)
  ·(try dsimp only)
   first
    | (with_reducible assumption)
    | (refine cell_keep ?_ g0 <;> (first | exact hbw4 | exact hbw4.drew | (go_grown; done)))
  clear hK K
  (try change wpAnyN _ _ _ _ _ _ _ _ (Act.put _ (some 14) _) _)
  try (unfold Act.put; dsimp only)
  refine tk (i := 3) (v := ?_) rfl (by kernel_rfl) (fun _ _ _ h => h) (Or.inl ⟨by first | kernel_rfl | rfl, ?_⟩) (by assumption) ?_
  rotate_left
  focus intro w hSw; (try dsimp only at hSw); go_simp; try with_reducible rfl
  try (unfold Act.put; dsimp only)
  refine wpAnyN_ready (rs := [4]) (by kernel_rfl) (by simp) ?_
  refine AllReadyN.cons rfl (fun K hK => ?_) ?_
  ·go_simp
   refine hK.out _ _ ?_ (fun hHeld => ?_)
   ·(try dsimp only)
    first
     | (with_reducible assumption)
     | (refine cell_keep ?_ g0 <;> (first | exact hbw4 | exact hbw4.drew | (go_grown; done)))
   clear hK K
   (try change wpAnyN _ _ _ _ _ _ _ _ (Act.put _ (some 18) _) _)
   try (unfold Act.put; dsimp only)
   refine tk (i := 5) (v := ?_) rfl (by kernel_rfl) (fun _ _ _ h => h) (Or.inl ⟨by first | kernel_rfl | rfl, ?_⟩) (by assumption) ?_
   rotate_left
   focus intro w hSw; (try dsimp only at hSw); go_simp; try with_reducible rfl
   try (unfold Act.put; dsimp only)
   refine wpAnyN_done (by kernel_rfl) ?_ _
   obtain ⟨f0, f1, f2, f3, f4, f5⟩ := HD.out
   have e0 := cell_keep hbw4 f0
   have e1 := cell_keep hbw4 f1
   have e2 := cell_keep hbw4 f2
   have e3 := cell_keep hbw4 f3
   have e4 := cell_keep hbw4 f4
   have e5 := cell_keep hbw4 f5
   have HB5 := Lib.hid (HB4.out.trans (hbw4.mono (Nat.le_of_lt HG4.out)))
   have HGW := Lib.hid (Nat.lt_of_lt_of_le HG4.out hbw4.size)
   clear f0 f1 f2 f3 f4 f5 hbw4 hnc hcs hb5
   go_wp2
   go_ret2
   exact ⟨by rw [← HT.out] <;> rfl, HB5.out⟩
  exact AllReadyN.nil
 exact AllReadyN.nil
set_option maxRecDepth 100000 in
set_option maxHeartbeats 4000000 in
theorem rentry_1  (w : World) (hf : entB 1 0 0 0 0 0 = true) :
 Calls Tryz.prog 12 #[.agg #[.int .i64 1, .int .i64 0, .int .i64 0, .int .i64 0, .int .i64 0, .int .i64 0]] w fun e w' => e = .returned (.tuple #[.string (bsA (jnL 32 [entName 1])), .bool true]) ∧ Below w.heap.size w w' := by
 have hbA : Below w.heap.size w (w.alloc (.cells #[.int .i64 1, .int .i64 0, .int .i64 0, .int .i64 0, .int .i64 0, .int .i64 0] 25)) := (Below.refl _ _).alloc (Nat.le_refl _) _
 have HF := Lib.hid (fun W => bytes_yes 1 0 0 0 0 0 W hf)
 have sN : (bsA (entName 1)).size ≤ 8 := by decide
 have HT := Lib.hid (show bsA (entName 1) = bsA (jnL 32 [entName 1]) from rfl)
 obtain ⟨NN, hNN⟩ : ∃ d, bsA (entName 1) = d := ⟨_, rfl⟩
 rw [hNN] at HT sN
 clear sN
 have HBA := Lib.hid hbA
 clear hf hbA
 go_enter Tryz.func12, Tryz.ntmps12
 go_wp2_with fail
 refine (HF.out _).mono ?_
 rintro e w4 ⟨⟨A, rfl, hrd⟩, hb4⟩
 clear hrd
 have HB4 := Lib.hid (HBA.out.trans (hb4.mono HBA.out.size))
 have HG4 := Lib.hid (show w.heap.size < w4.heap.size from Nat.lt_of_lt_of_le (by simp) hb4.size)
 have g0 := cell_keep hb4 (b := w.heap.size) (o := 0) (u := .int .i64 1) (by simp)
 have g1 := cell_keep hb4 (b := w.heap.size) (o := 1) (u := .int .i64 0) (by simp)
 have g2 := cell_keep hb4 (b := w.heap.size) (o := 2) (u := .int .i64 0) (by simp)
 have g3 := cell_keep hb4 (b := w.heap.size) (o := 3) (u := .int .i64 0) (by simp)
 have g4 := cell_keep hb4 (b := w.heap.size) (o := 4) (u := .int .i64 0) (by simp)
 have g5 := cell_keep hb4 (b := w.heap.size) (o := 5) (u := .int .i64 0) (by simp)
 have HD := Lib.hid (And.intro g0 (And.intro g1 (And.intro g2 (And.intro g3 (And.intro g4 g5)))))
 clear hb4 HF HBA g1 g2 g3 g4 g5
 go_wp2_with fail
 refine wp_region_N (S := (fun w' => w'.cell? ⟨w.heap.size, 0, none⟩ = some (.int .i64 1))) (fun i => true) (by kernel_rfl) ?_ (fun hHeld => ?_)
 ·(try dsimp only)
  first
   | (with_reducible assumption)
   | (refine cell_keep ?_ g0 <;> (first | exact hbw4 | exact hbw4.drew | (go_grown; done)))
 refine tk (i := 1) (v := ?_) rfl (by kernel_rfl) (fun _ _ _ h => h) (Or.inl ⟨by first | kernel_rfl | rfl, ?_⟩) (by assumption) ?_
 rotate_left
 focus intro w hSw; (try dsimp only at hSw); go_simp; try with_reducible rfl
 try (unfold Act.put; dsimp only)
 refine tk (i := 2) (v := ?_) rfl (by kernel_rfl) (fun _ _ _ h => h) (Or.inl ⟨by first | kernel_rfl | rfl, ?_⟩) (by assumption) ?_
 rotate_left
 focus intro w hSw; (try dsimp only at hSw); go_simp; try with_reducible rfl
 try (unfold Act.put; dsimp only)
 refine wpAnyN_ready (rs := [0]) (by kernel_rfl) (by simp) ?_
 refine AllReadyN.cons rfl (fun K hK => ?_) ?_
 ·go_simp
  go_at_call 34
  refine (rnames_at _).mono ?_
  rintro e w5 ⟨rfl, hcs, hb5⟩
  have hnc : w5.cell? ⟨w4.heap.size, 1, none⟩ = some (.string NN) := by rw [← hNN]; exact hcs 1 (by omega)
  have hbw4 : Below w4.heap.size w4 w5 := Below.trans (show Below w4.heap.size w4 _ by first | exact Below.refl _ _ | exact (Below.refl _ _).drew) (hb5.mono (by first | exact Nat.le_refl _ | (simp; done)))
  dsimp only
  refine hK.out _ _ ?_ (fun hHeld => ?_)
  ·(try dsimp only)
   first
    | (with_reducible assumption)
    | (refine cell_keep ?_ g0 <;> (first | exact hbw4 | exact hbw4.drew | (go_grown; done)))
  clear hK K
  (try change wpAnyN _ _ _ _ _ _ _ _ (Act.put _ (some 14) _) _)
  try (unfold Act.put; dsimp only)
  refine tk (i := 3) (v := ?_) rfl (by kernel_rfl) (fun _ _ _ h => h) (Or.inl ⟨by first | kernel_rfl | rfl, ?_⟩) (by assumption) ?_
  rotate_left
  focus intro w hSw; (try dsimp only at hSw); go_simp; try with_reducible rfl
  try (unfold Act.put; dsimp only)
  refine wpAnyN_ready (rs := [4]) (by kernel_rfl) (by simp) ?_
  refine AllReadyN.cons rfl (fun K hK => ?_) ?_
  ·go_simp
   refine hK.out _ _ ?_ (fun hHeld => ?_)
   ·(try dsimp only)
    first
     | (with_reducible assumption)
     | (refine cell_keep ?_ g0 <;> (first | exact hbw4 | exact hbw4.drew | (go_grown; done)))
   clear hK K
   (try change wpAnyN _ _ _ _ _ _ _ _ (Act.put _ (some 18) _) _)
   try (unfold Act.put; dsimp only)
   refine tk (i := 5) (v := ?_) rfl (by kernel_rfl) (fun _ _ _ h => h) (Or.inl ⟨by first | kernel_rfl | rfl, ?_⟩) (by assumption) ?_
   rotate_left
   focus intro w hSw; (try dsimp only at hSw); go_simp; try with_reducible rfl
   try (unfold Act.put; dsimp only)
   refine wpAnyN_done (by kernel_rfl) ?_ _
   obtain ⟨f0, f1, f2, f3, f4, f5⟩ := HD.out
   have e0 := cell_keep hbw4 f0
   have e1 := cell_keep hbw4 f1
   have e2 := cell_keep hbw4 f2
   have e3 := cell_keep hbw4 f3
   have e4 := cell_keep hbw4 f4
   have e5 := cell_keep hbw4 f5
   have HB5 := Lib.hid (HB4.out.trans (hbw4.mono (Nat.le_of_lt HG4.out)))
   have HGW := Lib.hid (Nat.lt_of_lt_of_le HG4.out hbw4.size)
   clear f0 f1 f2 f3 f4 f5 hbw4 hnc hcs hb5
   go_wp2
   go_ret2
   exact ⟨by rw [← HT.out] <;> rfl, HB5.out⟩
  exact AllReadyN.nil
 exact AllReadyN.nil
set_option maxRecDepth 100000 in
set_option maxHeartbeats 4000000 in
theorem rentry_2 (c : Nat) (hc : c ≤ 99999999) (w : World) (hf : entB 2 (c : Int) 0 0 0 0 = true) :
 Calls Tryz.prog 12 #[.agg #[.int .i64 2, .int .i64 c, .int .i64 0, .int .i64 0, .int .i64 0, .int .i64 0]] w fun e w' => e = .returned (.tuple #[.string (bsA (jnL 32 [entName 2, decL c])), .bool true]) ∧ Below w.heap.size w w' := by
 have hbA : Below w.heap.size w (w.alloc (.cells #[.int .i64 2, .int .i64 c, .int .i64 0, .int .i64 0, .int .i64 0, .int .i64 0] 25)) := (Below.refl _ _).alloc (Nat.le_refl _) _
 have HF := Lib.hid (fun W => bytes_yes 2 (c : Int) 0 0 0 0 W hf)
 have HD1 := Lib.hid (fun W => d_any c W hc)
 have s1 : (decB c).size ≤ 8 := decB_size hc
 have sN : (bsA (entName 2)).size ≤ 8 := by decide
 have HT := Lib.hid (show (((bsA (entName 2) ++ ⟨#[32]⟩) ++ decB c) : ByteArray) = bsA (jnL 32 [entName 2, decL c]) from by
  rw [show (⟨#[32]⟩ : ByteArray) = bsA [32] from rfl]
  unfold decB
  simp only [bs_app, jnL]
  congr 1
  try simp)
 obtain ⟨NN, hNN⟩ : ∃ d, bsA (entName 2) = d := ⟨_, rfl⟩
 rw [hNN] at HT sN
 obtain ⟨d1, hd1⟩ : ∃ d, decB c = d := ⟨_, rfl⟩
 rw [hd1] at HD1 s1 HT
 clear hd1
 obtain ⟨X1, hX1, z1, y1⟩ := add_sp NN 8 sN (by decide)
 rw [hX1] at HT
 obtain ⟨X2, hX2, z2, y2⟩ := add_ex X1 d1 9 8 z1 s1 (by decide)
 rw [hX2] at HT
 clear z1 z2 s1 sN
 have HBA := Lib.hid hbA
 clear hf hbA
 go_enter Tryz.func12, Tryz.ntmps12
 go_wp2_with fail
 refine (HF.out _).mono ?_
 rintro e w4 ⟨⟨A, rfl, hrd⟩, hb4⟩
 clear hrd
 have HB4 := Lib.hid (HBA.out.trans (hb4.mono HBA.out.size))
 have HG4 := Lib.hid (show w.heap.size < w4.heap.size from Nat.lt_of_lt_of_le (by simp) hb4.size)
 have g0 := cell_keep hb4 (b := w.heap.size) (o := 0) (u := .int .i64 2) (by simp)
 have g1 := cell_keep hb4 (b := w.heap.size) (o := 1) (u := .int .i64 c) (by simp)
 have g2 := cell_keep hb4 (b := w.heap.size) (o := 2) (u := .int .i64 0) (by simp)
 have g3 := cell_keep hb4 (b := w.heap.size) (o := 3) (u := .int .i64 0) (by simp)
 have g4 := cell_keep hb4 (b := w.heap.size) (o := 4) (u := .int .i64 0) (by simp)
 have g5 := cell_keep hb4 (b := w.heap.size) (o := 5) (u := .int .i64 0) (by simp)
 have HD := Lib.hid (And.intro g0 (And.intro g1 (And.intro g2 (And.intro g3 (And.intro g4 g5)))))
 clear hb4 HF HBA g1 g2 g3 g4 g5
 go_wp2_with fail
 refine wp_region_N (S := (fun w' => w'.cell? ⟨w.heap.size, 0, none⟩ = some (.int .i64 2))) (fun i => true) (by kernel_rfl) ?_ (fun hHeld => ?_)
 ·(try dsimp only)
  first
   | (with_reducible assumption)
   | (refine cell_keep ?_ g0 <;> (first | exact hbw4 | exact hbw4.drew | (go_grown; done)))
 refine tk (i := 1) (v := ?_) rfl (by kernel_rfl) (fun _ _ _ h => h) (Or.inl ⟨by first | kernel_rfl | rfl, ?_⟩) (by assumption) ?_
 rotate_left
 focus intro w hSw; (try dsimp only at hSw); go_simp; try with_reducible rfl
 try (unfold Act.put; dsimp only)
 refine tk (i := 2) (v := ?_) rfl (by kernel_rfl) (fun _ _ _ h => h) (Or.inl ⟨by first | kernel_rfl | rfl, ?_⟩) (by assumption) ?_
 rotate_left
 focus intro w hSw; (try dsimp only at hSw); go_simp; try with_reducible rfl
 try (unfold Act.put; dsimp only)
 refine wpAnyN_ready (rs := [0]) (by kernel_rfl) (by simp) ?_
 refine AllReadyN.cons rfl (fun K hK => ?_) ?_
 ·go_simp
  go_at_call 34
  refine (rnames_at _).mono ?_
  rintro e w5 ⟨rfl, hcs, hb5⟩
  have hnc : w5.cell? ⟨w4.heap.size, 2, none⟩ = some (.string NN) := by rw [← hNN]; exact hcs 2 (by omega)
  have hbw4 : Below w4.heap.size w4 w5 := Below.trans (show Below w4.heap.size w4 _ by first | exact Below.refl _ _ | exact (Below.refl _ _).drew) (hb5.mono (by first | exact Nat.le_refl _ | (simp; done)))
  dsimp only
  refine hK.out _ _ ?_ (fun hHeld => ?_)
  ·(try dsimp only)
   first
    | (with_reducible assumption)
    | (refine cell_keep ?_ g0 <;> (first | exact hbw4 | exact hbw4.drew | (go_grown; done)))
  clear hK K
  (try change wpAnyN _ _ _ _ _ _ _ _ (Act.put _ (some 14) _) _)
  try (unfold Act.put; dsimp only)
  refine tk (i := 3) (v := ?_) rfl (by kernel_rfl) (fun _ _ _ h => h) (Or.inl ⟨by first | kernel_rfl | rfl, ?_⟩) (by assumption) ?_
  rotate_left
  focus intro w hSw; (try dsimp only at hSw); go_simp; try with_reducible rfl
  try (unfold Act.put; dsimp only)
  refine wpAnyN_ready (rs := [4]) (by kernel_rfl) (by simp) ?_
  refine AllReadyN.cons rfl (fun K hK => ?_) ?_
  ·go_simp
   refine hK.out _ _ ?_ (fun hHeld => ?_)
   ·(try dsimp only)
    first
     | (with_reducible assumption)
     | (refine cell_keep ?_ g0 <;> (first | exact hbw4 | exact hbw4.drew | (go_grown; done)))
   clear hK K
   (try change wpAnyN _ _ _ _ _ _ _ _ (Act.put _ (some 18) _) _)
   try (unfold Act.put; dsimp only)
   refine tk (i := 5) (v := ?_) rfl (by kernel_rfl) (fun _ _ _ h => h) (Or.inl ⟨by first | kernel_rfl | rfl, ?_⟩) (by assumption) ?_
   rotate_left
   focus intro w hSw; (try dsimp only at hSw); go_simp; try with_reducible rfl
   try (unfold Act.put; dsimp only)
   refine wpAnyN_done (by kernel_rfl) ?_ _
   obtain ⟨f0, f1, f2, f3, f4, f5⟩ := HD.out
   have e0 := cell_keep hbw4 f0
   have e1 := cell_keep hbw4 f1
   have e2 := cell_keep hbw4 f2
   have e3 := cell_keep hbw4 f3
   have e4 := cell_keep hbw4 f4
   have e5 := cell_keep hbw4 f5
   have HB5 := Lib.hid (HB4.out.trans (hbw4.mono (Nat.le_of_lt HG4.out)))
   have HGW := Lib.hid (Nat.lt_of_lt_of_le HG4.out hbw4.size)
   clear f0 f1 f2 f3 f4 f5 hbw4 hnc hcs hb5
   go_wp2_with fail
   refine (HD1.out _).mono ?_
   rintro e w6 ⟨rfl, hb6⟩
   go_wp2
   go_ret2
   exact ⟨by rw [← HT.out] <;> rfl, HB5.out.trans (hb6.mono (Nat.le_of_lt HGW.out))⟩
  exact AllReadyN.nil
 exact AllReadyN.nil
set_option maxRecDepth 100000 in
set_option maxHeartbeats 4000000 in
theorem rentry_3 (c t r m : Nat) (hc : c ≤ 99999999) (ht : 1 ≤ t ∧ t ≤ 250) (hr : r ≤ 250) (hm : m ≤ 4) (w : World) (hf : entB 3 (c : Int) (t : Int) (r : Int) (m : Int) 0 = true) :
 Calls Tryz.prog 12 #[.agg #[.int .i64 3, .int .i64 c, .int .i64 t, .int .i64 r, .int .i64 m, .int .i64 0]] w fun e w' => e = .returned (.tuple #[.string (bsA (jnL 32 [entName 3, decL c, textL t r, modeL m])), .bool true]) ∧ Below w.heap.size w w' := by
 have hbA : Below w.heap.size w (w.alloc (.cells #[.int .i64 3, .int .i64 c, .int .i64 t, .int .i64 r, .int .i64 m, .int .i64 0] 25)) := (Below.refl _ _).alloc (Nat.le_refl _) _
 have HF := Lib.hid (fun W => bytes_yes 3 (c : Int) (t : Int) (r : Int) (m : Int) 0 W hf)
 have HD1 := Lib.hid (fun W => d_any c W hc)
 have s1 : (decB c).size ≤ 8 := decB_size hc
 have HD2 := Lib.hid (fun W => text_any t r W (by omega) (by omega))
 have s2 : (textB t r).size ≤ 8 := textB_le ht.2 hr
 have s3 : (bsA (modeL m)).size ≤ 8 := modeL_le m
 have sN : (bsA (entName 3)).size ≤ 8 := by decide
 have HT := Lib.hid (show (((((((bsA (entName 3) ++ ⟨#[32]⟩) ++ decB c) ++ ⟨#[32]⟩) ++ textB t r) ++ ⟨#[32]⟩) ++ bsA (modeL m)) : ByteArray) = bsA (jnL 32 [entName 3, decL c, textL t r, modeL m]) from by
  rw [show (⟨#[32]⟩ : ByteArray) = bsA [32] from rfl]
  unfold decB; rw [show textB t r = bsA (textL t r) from rfl]
  simp only [bs_app, jnL]
  congr 1
  try simp)
 obtain ⟨NN, hNN⟩ : ∃ d, bsA (entName 3) = d := ⟨_, rfl⟩
 rw [hNN] at HT sN
 obtain ⟨d1, hd1⟩ : ∃ d, decB c = d := ⟨_, rfl⟩
 rw [hd1] at HD1 s1 HT
 clear hd1
 obtain ⟨d2, hd2⟩ : ∃ d, textB t r = d := ⟨_, rfl⟩
 rw [hd2] at HD2 s2 HT
 clear hd2
 obtain ⟨MM, hMM⟩ : ∃ d, bsA (modeL m) = d := ⟨_, rfl⟩
 rw [hMM] at s3 HT
 obtain ⟨X1, hX1, z1, y1⟩ := add_sp NN 8 sN (by decide)
 rw [hX1] at HT
 obtain ⟨X2, hX2, z2, y2⟩ := add_ex X1 d1 9 8 z1 s1 (by decide)
 rw [hX2] at HT
 obtain ⟨X3, hX3, z3, y3⟩ := add_sp X2 17 z2 (by decide)
 rw [hX3] at HT
 obtain ⟨X4, hX4, z4, y4⟩ := add_ex X3 d2 18 8 z3 s2 (by decide)
 rw [hX4] at HT
 obtain ⟨X5, hX5, z5, y5⟩ := add_sp X4 26 z4 (by decide)
 rw [hX5] at HT
 obtain ⟨X6, hX6, z6, y6⟩ := add_ex X5 MM 27 8 z5 s3 (by decide)
 rw [hX6] at HT
 clear z1 z2 z3 z4 z5 z6 s1 s2 s3 sN
 have HBA := Lib.hid hbA
 clear hf hbA
 go_enter Tryz.func12, Tryz.ntmps12
 go_wp2_with fail
 refine (HF.out _).mono ?_
 rintro e w4 ⟨⟨A, rfl, hrd⟩, hb4⟩
 clear hrd
 have HB4 := Lib.hid (HBA.out.trans (hb4.mono HBA.out.size))
 have HG4 := Lib.hid (show w.heap.size < w4.heap.size from Nat.lt_of_lt_of_le (by simp) hb4.size)
 have g0 := cell_keep hb4 (b := w.heap.size) (o := 0) (u := .int .i64 3) (by simp)
 have g1 := cell_keep hb4 (b := w.heap.size) (o := 1) (u := .int .i64 c) (by simp)
 have g2 := cell_keep hb4 (b := w.heap.size) (o := 2) (u := .int .i64 t) (by simp)
 have g3 := cell_keep hb4 (b := w.heap.size) (o := 3) (u := .int .i64 r) (by simp)
 have g4 := cell_keep hb4 (b := w.heap.size) (o := 4) (u := .int .i64 m) (by simp)
 have g5 := cell_keep hb4 (b := w.heap.size) (o := 5) (u := .int .i64 0) (by simp)
 have HD := Lib.hid (And.intro g0 (And.intro g1 (And.intro g2 (And.intro g3 (And.intro g4 g5)))))
 clear hb4 HF HBA g1 g2 g3 g4 g5
 go_wp2_with fail
 refine wp_region_N (S := (fun w' => w'.cell? ⟨w.heap.size, 0, none⟩ = some (.int .i64 3))) (fun i => true) (by kernel_rfl) ?_ (fun hHeld => ?_)
 ·(try dsimp only)
  first
   | (with_reducible assumption)
   | (refine cell_keep ?_ g0 <;> (first | exact hbw4 | exact hbw4.drew | (go_grown; done)))
 refine tk (i := 1) (v := ?_) rfl (by kernel_rfl) (fun _ _ _ h => h) (Or.inl ⟨by first | kernel_rfl | rfl, ?_⟩) (by assumption) ?_
 rotate_left
 focus intro w hSw; (try dsimp only at hSw); go_simp; try with_reducible rfl
 try (unfold Act.put; dsimp only)
 refine tk (i := 2) (v := ?_) rfl (by kernel_rfl) (fun _ _ _ h => h) (Or.inl ⟨by first | kernel_rfl | rfl, ?_⟩) (by assumption) ?_
 rotate_left
 focus intro w hSw; (try dsimp only at hSw); go_simp; try with_reducible rfl
 try (unfold Act.put; dsimp only)
 refine wpAnyN_ready (rs := [0]) (by kernel_rfl) (by simp) ?_
 refine AllReadyN.cons rfl (fun K hK => ?_) ?_
 ·go_simp
  go_at_call 34
  refine (rnames_at _).mono ?_
  rintro e w5 ⟨rfl, hcs, hb5⟩
  have hnc : w5.cell? ⟨w4.heap.size, 3, none⟩ = some (.string NN) := by rw [← hNN]; exact hcs 3 (by omega)
  have hbw4 : Below w4.heap.size w4 w5 := Below.trans (show Below w4.heap.size w4 _ by first | exact Below.refl _ _ | exact (Below.refl _ _).drew) (hb5.mono (by first | exact Nat.le_refl _ | (simp; done)))
  dsimp only
  refine hK.out _ _ ?_ (fun hHeld => ?_)
  ·(try dsimp only)
   first
    | (with_reducible assumption)
    | (refine cell_keep ?_ g0 <;> (first | exact hbw4 | exact hbw4.drew | (go_grown; done)))
  clear hK K
  (try change wpAnyN _ _ _ _ _ _ _ _ (Act.put _ (some 14) _) _)
  try (unfold Act.put; dsimp only)
  refine tk (i := 3) (v := ?_) rfl (by kernel_rfl) (fun _ _ _ h => h) (Or.inl ⟨by first | kernel_rfl | rfl, ?_⟩) (by assumption) ?_
  rotate_left
  focus intro w hSw; (try dsimp only at hSw); go_simp; try with_reducible rfl
  try (unfold Act.put; dsimp only)
  refine wpAnyN_ready (rs := [4]) (by kernel_rfl) (by simp) ?_
  refine AllReadyN.cons rfl (fun K hK => ?_) ?_
  ·go_simp
   refine hK.out _ _ ?_ (fun hHeld => ?_)
   ·(try dsimp only)
    first
     | (with_reducible assumption)
     | (refine cell_keep ?_ g0 <;> (first | exact hbw4 | exact hbw4.drew | (go_grown; done)))
   clear hK K
   (try change wpAnyN _ _ _ _ _ _ _ _ (Act.put _ (some 18) _) _)
   try (unfold Act.put; dsimp only)
   refine tk (i := 5) (v := ?_) rfl (by kernel_rfl) (fun _ _ _ h => h) (Or.inl ⟨by first | kernel_rfl | rfl, ?_⟩) (by assumption) ?_
   rotate_left
   focus intro w hSw; (try dsimp only at hSw); go_simp; try with_reducible rfl
   try (unfold Act.put; dsimp only)
   refine wpAnyN_done (by kernel_rfl) ?_ _
   obtain ⟨f0, f1, f2, f3, f4, f5⟩ := HD.out
   have e0 := cell_keep hbw4 f0
   have e1 := cell_keep hbw4 f1
   have e2 := cell_keep hbw4 f2
   have e3 := cell_keep hbw4 f3
   have e4 := cell_keep hbw4 f4
   have e5 := cell_keep hbw4 f5
   have HB5 := Lib.hid (HB4.out.trans (hbw4.mono (Nat.le_of_lt HG4.out)))
   have HGW := Lib.hid (Nat.lt_of_lt_of_le HG4.out hbw4.size)
   clear f0 f1 f2 f3 f4 f5 hbw4 hnc hcs hb5
   have hm4 : (m : Int) < 5 := by omega
   go_wp2_with fail
   refine wp_region_N (S := (fun w' => w'.cell? ⟨w.heap.size, 1, none⟩ = some (.int .i64 c) ∧ w'.cell? ⟨w.heap.size, 2, none⟩ = some (.int .i64 t) ∧ w'.cell? ⟨w.heap.size, 3, none⟩ = some (.int .i64 r) ∧ w'.cell? ⟨w.heap.size, 4, none⟩ = some (.int .i64 m))) (fun i => true) (by kernel_rfl) ?_ (fun hHeld => ?_)
   ·(try dsimp only)
    first
     | (refine ⟨?_, ?_, ?_, ?_⟩ <;> with_reducible assumption)
     | (refine ⟨cell_keep ?_ e1, cell_keep ?_ e2, cell_keep ?_ e3, cell_keep ?_ e4⟩ <;> (first | exact hbw | exact hbw.drew | (go_grown; done)))
   refine tk (i := 0) (v := ?_) rfl (by kernel_rfl) (fun _ _ _ h => h) (Or.inl ⟨by first | kernel_rfl | rfl, ?_⟩) (by assumption) ?_
   rotate_left
   focus intro w hSw; (try dsimp only at hSw); go_simp; try with_reducible rfl
   try (unfold Act.put; dsimp only)
   refine tk (i := 1) (v := ?_) rfl (by kernel_rfl) (fun _ _ _ h => h) (Or.inl ⟨by first | kernel_rfl | rfl, ?_⟩) (by assumption) ?_
   rotate_left
   focus intro w hSw; (try dsimp only at hSw); go_simp; try with_reducible rfl
   try (unfold Act.put; dsimp only)
   refine tk (i := 2) (v := ?_) rfl (by kernel_rfl) (fun _ _ _ h => h) (Or.inl ⟨by first | kernel_rfl | rfl, ?_⟩) (by assumption) ?_
   rotate_left
   focus intro w hSw; (try dsimp only at hSw); go_simp; try with_reducible rfl
   try (unfold Act.put; dsimp only)
   refine tk (i := 3) (v := ?_) rfl (by kernel_rfl) (fun _ _ _ h => h) (Or.inl ⟨by first | kernel_rfl | rfl, ?_⟩) (by assumption) ?_
   rotate_left
   focus intro w hSw; (try dsimp only at hSw); go_simp; try with_reducible rfl
   try (unfold Act.put; dsimp only)
   refine tk (i := 7) (v := ?_) rfl (by kernel_rfl) (fun _ _ _ h => h) (Or.inl ⟨by first | kernel_rfl | rfl, ?_⟩) (by assumption) ?_
   rotate_left
   focus intro w hSw; (try dsimp only at hSw); go_simp; try with_reducible rfl
   try (unfold Act.put; dsimp only)
   refine tk (i := 8) (v := ?_) rfl (by kernel_rfl) (fun _ _ _ h => h) (Or.inl ⟨by first | kernel_rfl | rfl, ?_⟩) (by assumption) ?_
   rotate_left
   focus intro w hSw; (try dsimp only at hSw); go_simp; try with_reducible rfl
   try (unfold Act.put; dsimp only)
   refine tk (i := 13) (v := ?_) rfl (by kernel_rfl) (fun _ _ _ h => h) (Or.inl ⟨by first | kernel_rfl | rfl, ?_⟩) (by assumption) ?_
   rotate_left
   focus intro w hSw; (try dsimp only at hSw); go_simp; try with_reducible rfl
   try (unfold Act.put; dsimp only)
   refine tk (i := 14) (v := ?_) rfl (by kernel_rfl) (fun _ _ _ h => h) (Or.inl ⟨by first | kernel_rfl | rfl, ?_⟩) (by assumption) ?_
   rotate_left
   focus intro w hSw; (try dsimp only at hSw); go_simp; try with_reducible rfl
   try (unfold Act.put; dsimp only)
   refine wpAnyN_ready (rs := [4]) (by kernel_rfl) (by simp) ?_
   refine AllReadyN.cons rfl (fun K hK => ?_) ?_
   ·go_simp
    go_at_call 35
    refine (HD1.out _).mono ?_
    rintro e w6 ⟨rfl, hb6⟩
    have hbw : Below w5.heap.size w5 w6 := Below.trans (show Below w5.heap.size w5 _ by first | exact Below.refl _ _ | exact (Below.refl _ _).drew | exact hbw | exact hbw.drew | go_grown) (hb6.mono (by first | exact Nat.le_refl _ | exact hbw.size | (simp; done) | (have := hbw.size; simp; omega)))
    dsimp only
    refine hK.out _ _ ?_ (fun hHeld => ?_)
    ·(try dsimp only)
     first
      | (refine ⟨?_, ?_, ?_, ?_⟩ <;> with_reducible assumption)
      | (refine ⟨cell_keep ?_ e1, cell_keep ?_ e2, cell_keep ?_ e3, cell_keep ?_ e4⟩ <;> (first | exact hbw | exact hbw.drew | (go_grown; done)))
    clear hK K
    (try change wpAnyN _ _ _ _ _ _ _ _ (Act.put _ (some 26) _) _)
    try (unfold Act.put; dsimp only)
    refine tk (i := 5) (v := ?_) rfl (by kernel_rfl) (fun _ _ _ h => h) (Or.inl ⟨by first | kernel_rfl | rfl, ?_⟩) (by assumption) ?_
    rotate_left
    focus intro w hSw; (try dsimp only at hSw); go_simp; try with_reducible rfl
    try (unfold Act.put; dsimp only)
    refine tk (i := 6) (v := ?_) rfl (by kernel_rfl) (fun _ _ _ h => h) (Or.inl ⟨by first | kernel_rfl | rfl, ?_⟩) (by assumption) ?_
    rotate_left
    focus intro w hSw; (try dsimp only at hSw); go_simp; try with_reducible rfl
    try (unfold Act.put; dsimp only)
    refine wpAnyN_ready (rs := [9]) (by kernel_rfl) (by simp) ?_
    refine AllReadyN.cons rfl (fun K hK => ?_) ?_
    ·go_simp
     go_at_call 36
     refine (HD2.out _).mono ?_
     rintro e w6 ⟨rfl, hb6⟩
     have hbw : Below w5.heap.size w5 w6 := Below.trans (show Below w5.heap.size w5 _ by first | exact Below.refl _ _ | exact (Below.refl _ _).drew | exact hbw | exact hbw.drew | go_grown) (hb6.mono (by first | exact Nat.le_refl _ | exact hbw.size | (simp; done) | (have := hbw.size; simp; omega)))
     dsimp only
     refine hK.out _ _ ?_ (fun hHeld => ?_)
     ·(try dsimp only)
      first
       | (refine ⟨?_, ?_, ?_, ?_⟩ <;> with_reducible assumption)
       | (refine ⟨cell_keep ?_ e1, cell_keep ?_ e2, cell_keep ?_ e3, cell_keep ?_ e4⟩ <;> (first | exact hbw | exact hbw.drew | (go_grown; done)))
     clear hK K
     (try change wpAnyN _ _ _ _ _ _ _ _ (Act.put _ (some 31) _) _)
     try (unfold Act.put; dsimp only)
     refine tk (i := 10) (v := ?_) rfl (by kernel_rfl) (fun _ _ _ h => h) (Or.inl ⟨by first | kernel_rfl | rfl, ?_⟩) (by assumption) ?_
     rotate_left
     focus intro w hSw; (try dsimp only at hSw); go_simp; try with_reducible rfl
     try (unfold Act.put; dsimp only)
     refine tk (i := 11) (v := ?_) rfl (by kernel_rfl) (fun _ _ _ h => h) (Or.inl ⟨by first | kernel_rfl | rfl, ?_⟩) (by assumption) ?_
     rotate_left
     focus intro w hSw; (try dsimp only at hSw); go_simp; try with_reducible rfl
     try (unfold Act.put; dsimp only)
     refine wpAnyN_ready (rs := [12]) (by kernel_rfl) (by simp) ?_
     refine AllReadyN.cons rfl (fun K hK => ?_) ?_
     ·go_simp
      go_at_call 37
      refine (rmodes_at _).mono ?_
      rintro e w6 ⟨rfl, hcs, hb6⟩
      have hmc := hcs m (by omega)
      rw [hMM] at hmc
      have hbw : Below w5.heap.size w5 w6 := Below.trans (show Below w5.heap.size w5 _ by first | exact Below.refl _ _ | exact (Below.refl _ _).drew | exact hbw | exact hbw.drew | go_grown) (hb6.mono (by first | exact Nat.le_refl _ | exact hbw.size | (simp; done) | (have := hbw.size; simp; omega)))
      dsimp only
      refine hK.out _ _ ?_ (fun hHeld => ?_)
      ·(try dsimp only)
       first
        | (refine ⟨?_, ?_, ?_, ?_⟩ <;> with_reducible assumption)
        | (refine ⟨cell_keep ?_ e1, cell_keep ?_ e2, cell_keep ?_ e3, cell_keep ?_ e4⟩ <;> (first | exact hbw | exact hbw.drew | (go_grown; done)))
      clear hK K
      (try change wpAnyN _ _ _ _ _ _ _ _ (Act.put _ (some 34) _) _)
      try (unfold Act.put; dsimp only)
      refine tk (i := 15) (v := ?_) rfl (by kernel_rfl) (fun _ _ _ h => h) (Or.inl ⟨by first | kernel_rfl | rfl, ?_⟩) (by assumption) ?_
      rotate_left
      focus intro w hSw; (try dsimp only at hSw); go_simp; try with_reducible rfl
      try (unfold Act.put; dsimp only)
      refine wpAnyN_ready (rs := [16]) (by kernel_rfl) (by simp) ?_
      refine AllReadyN.cons rfl (fun K hK => ?_) ?_
      ·go_simp
       refine hK.out _ _ ?_ (fun hHeld => ?_)
       ·(try dsimp only)
        first
         | (refine ⟨?_, ?_, ?_, ?_⟩ <;> with_reducible assumption)
         | (refine ⟨cell_keep ?_ e1, cell_keep ?_ e2, cell_keep ?_ e3, cell_keep ?_ e4⟩ <;> (first | exact hbw | exact hbw.drew | (go_grown; done)))
       clear hK K
       (try change wpAnyN _ _ _ _ _ _ _ _ (Act.put _ (some 38) _) _)
       try (unfold Act.put; dsimp only)
       refine tk (i := 17) (v := ?_) rfl (by kernel_rfl) (fun _ _ _ h => h) (Or.inl ⟨by first | kernel_rfl | rfl, ?_⟩) (by assumption) ?_
       rotate_left
       focus intro w hSw; (try dsimp only at hSw); go_simp; try with_reducible rfl
       try (unfold Act.put; dsimp only)
       refine tk (i := 18) (v := ?_) rfl (by kernel_rfl) (fun _ _ _ h => h) (Or.inl ⟨by first | kernel_rfl | rfl, ?_⟩) (by assumption) ?_
       rotate_left
       focus intro w hSw; (try dsimp only at hSw); go_simp; try with_reducible rfl
       try (unfold Act.put; dsimp only)
       refine tk (i := 19) (v := ?_) rfl (by kernel_rfl) (fun _ _ _ h => h) (Or.inl ⟨by first | kernel_rfl | rfl, ?_⟩) (by assumption) ?_
       rotate_left
       focus intro w hSw; (try dsimp only at hSw); go_simp; try with_reducible rfl
       try (unfold Act.put; dsimp only)
       refine wpAnyN_done (by kernel_rfl) ?_ _
       go_wp2
       go_ret2
       exact ⟨by rw [← HT.out] <;> rfl, (HB5.out.trans (hbw.mono (Nat.le_of_lt HGW.out)))⟩
      exact AllReadyN.nil
     exact AllReadyN.nil
    exact AllReadyN.nil
   exact AllReadyN.nil
  exact AllReadyN.nil
 exact AllReadyN.nil
set_option maxRecDepth 100000 in
set_option maxHeartbeats 4000000 in
theorem rentry_4 (c : Nat) (hc : c ≤ 99999999) (w : World) (hf : entB 4 (c : Int) 0 0 0 0 = true) :
 Calls Tryz.prog 12 #[.agg #[.int .i64 4, .int .i64 c, .int .i64 0, .int .i64 0, .int .i64 0, .int .i64 0]] w fun e w' => e = .returned (.tuple #[.string (bsA (jnL 32 [entName 4, decL c])), .bool true]) ∧ Below w.heap.size w w' := by
 have hbA : Below w.heap.size w (w.alloc (.cells #[.int .i64 4, .int .i64 c, .int .i64 0, .int .i64 0, .int .i64 0, .int .i64 0] 25)) := (Below.refl _ _).alloc (Nat.le_refl _) _
 have HF := Lib.hid (fun W => bytes_yes 4 (c : Int) 0 0 0 0 W hf)
 have HD1 := Lib.hid (fun W => d_any c W hc)
 have s1 : (decB c).size ≤ 8 := decB_size hc
 have sN : (bsA (entName 4)).size ≤ 8 := by decide
 have HT := Lib.hid (show (((bsA (entName 4) ++ ⟨#[32]⟩) ++ decB c) : ByteArray) = bsA (jnL 32 [entName 4, decL c]) from by
  rw [show (⟨#[32]⟩ : ByteArray) = bsA [32] from rfl]
  unfold decB
  simp only [bs_app, jnL]
  congr 1
  try simp)
 obtain ⟨NN, hNN⟩ : ∃ d, bsA (entName 4) = d := ⟨_, rfl⟩
 rw [hNN] at HT sN
 obtain ⟨d1, hd1⟩ : ∃ d, decB c = d := ⟨_, rfl⟩
 rw [hd1] at HD1 s1 HT
 clear hd1
 obtain ⟨X1, hX1, z1, y1⟩ := add_sp NN 8 sN (by decide)
 rw [hX1] at HT
 obtain ⟨X2, hX2, z2, y2⟩ := add_ex X1 d1 9 8 z1 s1 (by decide)
 rw [hX2] at HT
 clear z1 z2 s1 sN
 have HBA := Lib.hid hbA
 clear hf hbA
 go_enter Tryz.func12, Tryz.ntmps12
 go_wp2_with fail
 refine (HF.out _).mono ?_
 rintro e w4 ⟨⟨A, rfl, hrd⟩, hb4⟩
 clear hrd
 have HB4 := Lib.hid (HBA.out.trans (hb4.mono HBA.out.size))
 have HG4 := Lib.hid (show w.heap.size < w4.heap.size from Nat.lt_of_lt_of_le (by simp) hb4.size)
 have g0 := cell_keep hb4 (b := w.heap.size) (o := 0) (u := .int .i64 4) (by simp)
 have g1 := cell_keep hb4 (b := w.heap.size) (o := 1) (u := .int .i64 c) (by simp)
 have g2 := cell_keep hb4 (b := w.heap.size) (o := 2) (u := .int .i64 0) (by simp)
 have g3 := cell_keep hb4 (b := w.heap.size) (o := 3) (u := .int .i64 0) (by simp)
 have g4 := cell_keep hb4 (b := w.heap.size) (o := 4) (u := .int .i64 0) (by simp)
 have g5 := cell_keep hb4 (b := w.heap.size) (o := 5) (u := .int .i64 0) (by simp)
 have HD := Lib.hid (And.intro g0 (And.intro g1 (And.intro g2 (And.intro g3 (And.intro g4 g5)))))
 clear hb4 HF HBA g1 g2 g3 g4 g5
 go_wp2_with fail
 refine wp_region_N (S := (fun w' => w'.cell? ⟨w.heap.size, 0, none⟩ = some (.int .i64 4))) (fun i => true) (by kernel_rfl) ?_ (fun hHeld => ?_)
 ·(try dsimp only)
  first
   | (with_reducible assumption)
   | (refine cell_keep ?_ g0 <;> (first | exact hbw4 | exact hbw4.drew | (go_grown; done)))
 refine tk (i := 1) (v := ?_) rfl (by kernel_rfl) (fun _ _ _ h => h) (Or.inl ⟨by first | kernel_rfl | rfl, ?_⟩) (by assumption) ?_
 rotate_left
 focus intro w hSw; (try dsimp only at hSw); go_simp; try with_reducible rfl
 try (unfold Act.put; dsimp only)
 refine tk (i := 2) (v := ?_) rfl (by kernel_rfl) (fun _ _ _ h => h) (Or.inl ⟨by first | kernel_rfl | rfl, ?_⟩) (by assumption) ?_
 rotate_left
 focus intro w hSw; (try dsimp only at hSw); go_simp; try with_reducible rfl
 try (unfold Act.put; dsimp only)
 refine wpAnyN_ready (rs := [0]) (by kernel_rfl) (by simp) ?_
 refine AllReadyN.cons rfl (fun K hK => ?_) ?_
 ·go_simp
  go_at_call 34
  refine (rnames_at _).mono ?_
  rintro e w5 ⟨rfl, hcs, hb5⟩
  have hnc : w5.cell? ⟨w4.heap.size, 4, none⟩ = some (.string NN) := by rw [← hNN]; exact hcs 4 (by omega)
  have hbw4 : Below w4.heap.size w4 w5 := Below.trans (show Below w4.heap.size w4 _ by first | exact Below.refl _ _ | exact (Below.refl _ _).drew) (hb5.mono (by first | exact Nat.le_refl _ | (simp; done)))
  dsimp only
  refine hK.out _ _ ?_ (fun hHeld => ?_)
  ·(try dsimp only)
   first
    | (with_reducible assumption)
    | (refine cell_keep ?_ g0 <;> (first | exact hbw4 | exact hbw4.drew | (go_grown; done)))
  clear hK K
  (try change wpAnyN _ _ _ _ _ _ _ _ (Act.put _ (some 14) _) _)
  try (unfold Act.put; dsimp only)
  refine tk (i := 3) (v := ?_) rfl (by kernel_rfl) (fun _ _ _ h => h) (Or.inl ⟨by first | kernel_rfl | rfl, ?_⟩) (by assumption) ?_
  rotate_left
  focus intro w hSw; (try dsimp only at hSw); go_simp; try with_reducible rfl
  try (unfold Act.put; dsimp only)
  refine wpAnyN_ready (rs := [4]) (by kernel_rfl) (by simp) ?_
  refine AllReadyN.cons rfl (fun K hK => ?_) ?_
  ·go_simp
   refine hK.out _ _ ?_ (fun hHeld => ?_)
   ·(try dsimp only)
    first
     | (with_reducible assumption)
     | (refine cell_keep ?_ g0 <;> (first | exact hbw4 | exact hbw4.drew | (go_grown; done)))
   clear hK K
   (try change wpAnyN _ _ _ _ _ _ _ _ (Act.put _ (some 18) _) _)
   try (unfold Act.put; dsimp only)
   refine tk (i := 5) (v := ?_) rfl (by kernel_rfl) (fun _ _ _ h => h) (Or.inl ⟨by first | kernel_rfl | rfl, ?_⟩) (by assumption) ?_
   rotate_left
   focus intro w hSw; (try dsimp only at hSw); go_simp; try with_reducible rfl
   try (unfold Act.put; dsimp only)
   refine wpAnyN_done (by kernel_rfl) ?_ _
   obtain ⟨f0, f1, f2, f3, f4, f5⟩ := HD.out
   have e0 := cell_keep hbw4 f0
   have e1 := cell_keep hbw4 f1
   have e2 := cell_keep hbw4 f2
   have e3 := cell_keep hbw4 f3
   have e4 := cell_keep hbw4 f4
   have e5 := cell_keep hbw4 f5
   have HB5 := Lib.hid (HB4.out.trans (hbw4.mono (Nat.le_of_lt HG4.out)))
   have HGW := Lib.hid (Nat.lt_of_lt_of_le HG4.out hbw4.size)
   clear f0 f1 f2 f3 f4 f5 hbw4 hnc hcs hb5
   go_wp2_with fail
   refine (HD1.out _).mono ?_
   rintro e w6 ⟨rfl, hb6⟩
   go_wp2
   go_ret2
   exact ⟨by rw [← HT.out] <;> rfl, HB5.out.trans (hb6.mono (Nat.le_of_lt HGW.out))⟩
  exact AllReadyN.nil
 exact AllReadyN.nil
set_option maxRecDepth 100000 in
set_option maxHeartbeats 4000000 in
theorem rentry_5 (c : Nat) (hc : c ≤ 99999999) (w : World) (hf : entB 5 (c : Int) 0 0 0 0 = true) :
 Calls Tryz.prog 12 #[.agg #[.int .i64 5, .int .i64 c, .int .i64 0, .int .i64 0, .int .i64 0, .int .i64 0]] w fun e w' => e = .returned (.tuple #[.string (bsA (jnL 32 [entName 5, decL c])), .bool true]) ∧ Below w.heap.size w w' := by
 have hbA : Below w.heap.size w (w.alloc (.cells #[.int .i64 5, .int .i64 c, .int .i64 0, .int .i64 0, .int .i64 0, .int .i64 0] 25)) := (Below.refl _ _).alloc (Nat.le_refl _) _
 have HF := Lib.hid (fun W => bytes_yes 5 (c : Int) 0 0 0 0 W hf)
 have HD1 := Lib.hid (fun W => d_any c W hc)
 have s1 : (decB c).size ≤ 8 := decB_size hc
 have sN : (bsA (entName 5)).size ≤ 8 := by decide
 have HT := Lib.hid (show (((bsA (entName 5) ++ ⟨#[32]⟩) ++ decB c) : ByteArray) = bsA (jnL 32 [entName 5, decL c]) from by
  rw [show (⟨#[32]⟩ : ByteArray) = bsA [32] from rfl]
  unfold decB
  simp only [bs_app, jnL]
  congr 1
  try simp)
 obtain ⟨NN, hNN⟩ : ∃ d, bsA (entName 5) = d := ⟨_, rfl⟩
 rw [hNN] at HT sN
 obtain ⟨d1, hd1⟩ : ∃ d, decB c = d := ⟨_, rfl⟩
 rw [hd1] at HD1 s1 HT
 clear hd1
 obtain ⟨X1, hX1, z1, y1⟩ := add_sp NN 8 sN (by decide)
 rw [hX1] at HT
 obtain ⟨X2, hX2, z2, y2⟩ := add_ex X1 d1 9 8 z1 s1 (by decide)
 rw [hX2] at HT
 clear z1 z2 s1 sN
 have HBA := Lib.hid hbA
 clear hf hbA
 go_enter Tryz.func12, Tryz.ntmps12
 go_wp2_with fail
 refine (HF.out _).mono ?_
 rintro e w4 ⟨⟨A, rfl, hrd⟩, hb4⟩
 clear hrd
 have HB4 := Lib.hid (HBA.out.trans (hb4.mono HBA.out.size))
 have HG4 := Lib.hid (show w.heap.size < w4.heap.size from Nat.lt_of_lt_of_le (by simp) hb4.size)
 have g0 := cell_keep hb4 (b := w.heap.size) (o := 0) (u := .int .i64 5) (by simp)
 have g1 := cell_keep hb4 (b := w.heap.size) (o := 1) (u := .int .i64 c) (by simp)
 have g2 := cell_keep hb4 (b := w.heap.size) (o := 2) (u := .int .i64 0) (by simp)
 have g3 := cell_keep hb4 (b := w.heap.size) (o := 3) (u := .int .i64 0) (by simp)
 have g4 := cell_keep hb4 (b := w.heap.size) (o := 4) (u := .int .i64 0) (by simp)
 have g5 := cell_keep hb4 (b := w.heap.size) (o := 5) (u := .int .i64 0) (by simp)
 have HD := Lib.hid (And.intro g0 (And.intro g1 (And.intro g2 (And.intro g3 (And.intro g4 g5)))))
 clear hb4 HF HBA g1 g2 g3 g4 g5
 go_wp2_with fail
 refine wp_region_N (S := (fun w' => w'.cell? ⟨w.heap.size, 0, none⟩ = some (.int .i64 5))) (fun i => true) (by kernel_rfl) ?_ (fun hHeld => ?_)
 ·(try dsimp only)
  first
   | (with_reducible assumption)
   | (refine cell_keep ?_ g0 <;> (first | exact hbw4 | exact hbw4.drew | (go_grown; done)))
 refine tk (i := 1) (v := ?_) rfl (by kernel_rfl) (fun _ _ _ h => h) (Or.inl ⟨by first | kernel_rfl | rfl, ?_⟩) (by assumption) ?_
 rotate_left
 focus intro w hSw; (try dsimp only at hSw); go_simp; try with_reducible rfl
 try (unfold Act.put; dsimp only)
 refine tk (i := 2) (v := ?_) rfl (by kernel_rfl) (fun _ _ _ h => h) (Or.inl ⟨by first | kernel_rfl | rfl, ?_⟩) (by assumption) ?_
 rotate_left
 focus intro w hSw; (try dsimp only at hSw); go_simp; try with_reducible rfl
 try (unfold Act.put; dsimp only)
 refine wpAnyN_ready (rs := [0]) (by kernel_rfl) (by simp) ?_
 refine AllReadyN.cons rfl (fun K hK => ?_) ?_
 ·go_simp
  go_at_call 34
  refine (rnames_at _).mono ?_
  rintro e w5 ⟨rfl, hcs, hb5⟩
  have hnc : w5.cell? ⟨w4.heap.size, 5, none⟩ = some (.string NN) := by rw [← hNN]; exact hcs 5 (by omega)
  have hbw4 : Below w4.heap.size w4 w5 := Below.trans (show Below w4.heap.size w4 _ by first | exact Below.refl _ _ | exact (Below.refl _ _).drew) (hb5.mono (by first | exact Nat.le_refl _ | (simp; done)))
  dsimp only
  refine hK.out _ _ ?_ (fun hHeld => ?_)
  ·(try dsimp only)
   first
    | (with_reducible assumption)
    | (refine cell_keep ?_ g0 <;> (first | exact hbw4 | exact hbw4.drew | (go_grown; done)))
  clear hK K
  (try change wpAnyN _ _ _ _ _ _ _ _ (Act.put _ (some 14) _) _)
  try (unfold Act.put; dsimp only)
  refine tk (i := 3) (v := ?_) rfl (by kernel_rfl) (fun _ _ _ h => h) (Or.inl ⟨by first | kernel_rfl | rfl, ?_⟩) (by assumption) ?_
  rotate_left
  focus intro w hSw; (try dsimp only at hSw); go_simp; try with_reducible rfl
  try (unfold Act.put; dsimp only)
  refine wpAnyN_ready (rs := [4]) (by kernel_rfl) (by simp) ?_
  refine AllReadyN.cons rfl (fun K hK => ?_) ?_
  ·go_simp
   refine hK.out _ _ ?_ (fun hHeld => ?_)
   ·(try dsimp only)
    first
     | (with_reducible assumption)
     | (refine cell_keep ?_ g0 <;> (first | exact hbw4 | exact hbw4.drew | (go_grown; done)))
   clear hK K
   (try change wpAnyN _ _ _ _ _ _ _ _ (Act.put _ (some 18) _) _)
   try (unfold Act.put; dsimp only)
   refine tk (i := 5) (v := ?_) rfl (by kernel_rfl) (fun _ _ _ h => h) (Or.inl ⟨by first | kernel_rfl | rfl, ?_⟩) (by assumption) ?_
   rotate_left
   focus intro w hSw; (try dsimp only at hSw); go_simp; try with_reducible rfl
   try (unfold Act.put; dsimp only)
   refine wpAnyN_done (by kernel_rfl) ?_ _
   obtain ⟨f0, f1, f2, f3, f4, f5⟩ := HD.out
   have e0 := cell_keep hbw4 f0
   have e1 := cell_keep hbw4 f1
   have e2 := cell_keep hbw4 f2
   have e3 := cell_keep hbw4 f3
   have e4 := cell_keep hbw4 f4
   have e5 := cell_keep hbw4 f5
   have HB5 := Lib.hid (HB4.out.trans (hbw4.mono (Nat.le_of_lt HG4.out)))
   have HGW := Lib.hid (Nat.lt_of_lt_of_le HG4.out hbw4.size)
   clear f0 f1 f2 f3 f4 f5 hbw4 hnc hcs hb5
   go_wp2_with fail
   refine (HD1.out _).mono ?_
   rintro e w6 ⟨rfl, hb6⟩
   go_wp2
   go_ret2
   exact ⟨by rw [← HT.out] <;> rfl, HB5.out.trans (hb6.mono (Nat.le_of_lt HGW.out))⟩
  exact AllReadyN.nil
 exact AllReadyN.nil
set_option maxRecDepth 100000 in
set_option maxHeartbeats 4000000 in
theorem rentry_6 (c : Nat) (hc : c ≤ 99999999) (w : World) (hf : entB 6 (c : Int) 0 0 0 0 = true) :
 Calls Tryz.prog 12 #[.agg #[.int .i64 6, .int .i64 c, .int .i64 0, .int .i64 0, .int .i64 0, .int .i64 0]] w fun e w' => e = .returned (.tuple #[.string (bsA (jnL 32 [entName 6, decL c])), .bool true]) ∧ Below w.heap.size w w' := by
 have hbA : Below w.heap.size w (w.alloc (.cells #[.int .i64 6, .int .i64 c, .int .i64 0, .int .i64 0, .int .i64 0, .int .i64 0] 25)) := (Below.refl _ _).alloc (Nat.le_refl _) _
 have HF := Lib.hid (fun W => bytes_yes 6 (c : Int) 0 0 0 0 W hf)
 have HD1 := Lib.hid (fun W => d_any c W hc)
 have s1 : (decB c).size ≤ 8 := decB_size hc
 have sN : (bsA (entName 6)).size ≤ 8 := by decide
 have HT := Lib.hid (show (((bsA (entName 6) ++ ⟨#[32]⟩) ++ decB c) : ByteArray) = bsA (jnL 32 [entName 6, decL c]) from by
  rw [show (⟨#[32]⟩ : ByteArray) = bsA [32] from rfl]
  unfold decB
  simp only [bs_app, jnL]
  congr 1
  try simp)
 obtain ⟨NN, hNN⟩ : ∃ d, bsA (entName 6) = d := ⟨_, rfl⟩
 rw [hNN] at HT sN
 obtain ⟨d1, hd1⟩ : ∃ d, decB c = d := ⟨_, rfl⟩
 rw [hd1] at HD1 s1 HT
 clear hd1
 obtain ⟨X1, hX1, z1, y1⟩ := add_sp NN 8 sN (by decide)
 rw [hX1] at HT
 obtain ⟨X2, hX2, z2, y2⟩ := add_ex X1 d1 9 8 z1 s1 (by decide)
 rw [hX2] at HT
 clear z1 z2 s1 sN
 have HBA := Lib.hid hbA
 clear hf hbA
 go_enter Tryz.func12, Tryz.ntmps12
 go_wp2_with fail
 refine (HF.out _).mono ?_
 rintro e w4 ⟨⟨A, rfl, hrd⟩, hb4⟩
 clear hrd
 have HB4 := Lib.hid (HBA.out.trans (hb4.mono HBA.out.size))
 have HG4 := Lib.hid (show w.heap.size < w4.heap.size from Nat.lt_of_lt_of_le (by simp) hb4.size)
 have g0 := cell_keep hb4 (b := w.heap.size) (o := 0) (u := .int .i64 6) (by simp)
 have g1 := cell_keep hb4 (b := w.heap.size) (o := 1) (u := .int .i64 c) (by simp)
 have g2 := cell_keep hb4 (b := w.heap.size) (o := 2) (u := .int .i64 0) (by simp)
 have g3 := cell_keep hb4 (b := w.heap.size) (o := 3) (u := .int .i64 0) (by simp)
 have g4 := cell_keep hb4 (b := w.heap.size) (o := 4) (u := .int .i64 0) (by simp)
 have g5 := cell_keep hb4 (b := w.heap.size) (o := 5) (u := .int .i64 0) (by simp)
 have HD := Lib.hid (And.intro g0 (And.intro g1 (And.intro g2 (And.intro g3 (And.intro g4 g5)))))
 clear hb4 HF HBA g1 g2 g3 g4 g5
 go_wp2_with fail
 refine wp_region_N (S := (fun w' => w'.cell? ⟨w.heap.size, 0, none⟩ = some (.int .i64 6))) (fun i => true) (by kernel_rfl) ?_ (fun hHeld => ?_)
 ·(try dsimp only)
  first
   | (with_reducible assumption)
   | (refine cell_keep ?_ g0 <;> (first | exact hbw4 | exact hbw4.drew | (go_grown; done)))
 refine tk (i := 1) (v := ?_) rfl (by kernel_rfl) (fun _ _ _ h => h) (Or.inl ⟨by first | kernel_rfl | rfl, ?_⟩) (by assumption) ?_
 rotate_left
 focus intro w hSw; (try dsimp only at hSw); go_simp; try with_reducible rfl
 try (unfold Act.put; dsimp only)
 refine tk (i := 2) (v := ?_) rfl (by kernel_rfl) (fun _ _ _ h => h) (Or.inl ⟨by first | kernel_rfl | rfl, ?_⟩) (by assumption) ?_
 rotate_left
 focus intro w hSw; (try dsimp only at hSw); go_simp; try with_reducible rfl
 try (unfold Act.put; dsimp only)
 refine wpAnyN_ready (rs := [0]) (by kernel_rfl) (by simp) ?_
 refine AllReadyN.cons rfl (fun K hK => ?_) ?_
 ·go_simp
  go_at_call 34
  refine (rnames_at _).mono ?_
  rintro e w5 ⟨rfl, hcs, hb5⟩
  have hnc : w5.cell? ⟨w4.heap.size, 6, none⟩ = some (.string NN) := by rw [← hNN]; exact hcs 6 (by omega)
  have hbw4 : Below w4.heap.size w4 w5 := Below.trans (show Below w4.heap.size w4 _ by first | exact Below.refl _ _ | exact (Below.refl _ _).drew) (hb5.mono (by first | exact Nat.le_refl _ | (simp; done)))
  dsimp only
  refine hK.out _ _ ?_ (fun hHeld => ?_)
  ·(try dsimp only)
   first
    | (with_reducible assumption)
    | (refine cell_keep ?_ g0 <;> (first | exact hbw4 | exact hbw4.drew | (go_grown; done)))
  clear hK K
  (try change wpAnyN _ _ _ _ _ _ _ _ (Act.put _ (some 14) _) _)
  try (unfold Act.put; dsimp only)
  refine tk (i := 3) (v := ?_) rfl (by kernel_rfl) (fun _ _ _ h => h) (Or.inl ⟨by first | kernel_rfl | rfl, ?_⟩) (by assumption) ?_
  rotate_left
  focus intro w hSw; (try dsimp only at hSw); go_simp; try with_reducible rfl
  try (unfold Act.put; dsimp only)
  refine wpAnyN_ready (rs := [4]) (by kernel_rfl) (by simp) ?_
  refine AllReadyN.cons rfl (fun K hK => ?_) ?_
  ·go_simp
   refine hK.out _ _ ?_ (fun hHeld => ?_)
   ·(try dsimp only)
    first
     | (with_reducible assumption)
     | (refine cell_keep ?_ g0 <;> (first | exact hbw4 | exact hbw4.drew | (go_grown; done)))
   clear hK K
   (try change wpAnyN _ _ _ _ _ _ _ _ (Act.put _ (some 18) _) _)
   try (unfold Act.put; dsimp only)
   refine tk (i := 5) (v := ?_) rfl (by kernel_rfl) (fun _ _ _ h => h) (Or.inl ⟨by first | kernel_rfl | rfl, ?_⟩) (by assumption) ?_
   rotate_left
   focus intro w hSw; (try dsimp only at hSw); go_simp; try with_reducible rfl
   try (unfold Act.put; dsimp only)
   refine wpAnyN_done (by kernel_rfl) ?_ _
   obtain ⟨f0, f1, f2, f3, f4, f5⟩ := HD.out
   have e0 := cell_keep hbw4 f0
   have e1 := cell_keep hbw4 f1
   have e2 := cell_keep hbw4 f2
   have e3 := cell_keep hbw4 f3
   have e4 := cell_keep hbw4 f4
   have e5 := cell_keep hbw4 f5
   have HB5 := Lib.hid (HB4.out.trans (hbw4.mono (Nat.le_of_lt HG4.out)))
   have HGW := Lib.hid (Nat.lt_of_lt_of_le HG4.out hbw4.size)
   clear f0 f1 f2 f3 f4 f5 hbw4 hnc hcs hb5
   go_wp2_with fail
   refine (HD1.out _).mono ?_
   rintro e w6 ⟨rfl, hb6⟩
   go_wp2
   go_ret2
   exact ⟨by rw [← HT.out] <;> rfl, HB5.out.trans (hb6.mono (Nat.le_of_lt HGW.out))⟩
  exact AllReadyN.nil
 exact AllReadyN.nil
set_option maxRecDepth 100000 in
set_option maxHeartbeats 4000000 in
theorem rentry_7 (p : Nat) (hp : p ≤ 99999999) (w : World) (hf : entB 7 0 0 0 0 (p : Int) = true) :
 Calls Tryz.prog 12 #[.agg #[.int .i64 7, .int .i64 0, .int .i64 0, .int .i64 0, .int .i64 0, .int .i64 p]] w fun e w' => e = .returned (.tuple #[.string (bsA (jnL 32 [entName 7, decL p])), .bool true]) ∧ Below w.heap.size w w' := by
 have hbA : Below w.heap.size w (w.alloc (.cells #[.int .i64 7, .int .i64 0, .int .i64 0, .int .i64 0, .int .i64 0, .int .i64 p] 25)) := (Below.refl _ _).alloc (Nat.le_refl _) _
 have HF := Lib.hid (fun W => bytes_yes 7 0 0 0 0 (p : Int) W hf)
 have HD1 := Lib.hid (fun W => d_any p W hp)
 have s1 : (decB p).size ≤ 8 := decB_size hp
 have sN : (bsA (entName 7)).size ≤ 8 := by decide
 have HT := Lib.hid (show (((bsA (entName 7) ++ ⟨#[32]⟩) ++ decB p) : ByteArray) = bsA (jnL 32 [entName 7, decL p]) from by
  rw [show (⟨#[32]⟩ : ByteArray) = bsA [32] from rfl]
  unfold decB
  simp only [bs_app, jnL]
  congr 1
  try simp)
 obtain ⟨NN, hNN⟩ : ∃ d, bsA (entName 7) = d := ⟨_, rfl⟩
 rw [hNN] at HT sN
 obtain ⟨d1, hd1⟩ : ∃ d, decB p = d := ⟨_, rfl⟩
 rw [hd1] at HD1 s1 HT
 clear hd1
 obtain ⟨X1, hX1, z1, y1⟩ := add_sp NN 8 sN (by decide)
 rw [hX1] at HT
 obtain ⟨X2, hX2, z2, y2⟩ := add_ex X1 d1 9 8 z1 s1 (by decide)
 rw [hX2] at HT
 clear z1 z2 s1 sN
 have HBA := Lib.hid hbA
 clear hf hbA
 go_enter Tryz.func12, Tryz.ntmps12
 go_wp2_with fail
 refine (HF.out _).mono ?_
 rintro e w4 ⟨⟨A, rfl, hrd⟩, hb4⟩
 clear hrd
 have HB4 := Lib.hid (HBA.out.trans (hb4.mono HBA.out.size))
 have HG4 := Lib.hid (show w.heap.size < w4.heap.size from Nat.lt_of_lt_of_le (by simp) hb4.size)
 have g0 := cell_keep hb4 (b := w.heap.size) (o := 0) (u := .int .i64 7) (by simp)
 have g1 := cell_keep hb4 (b := w.heap.size) (o := 1) (u := .int .i64 0) (by simp)
 have g2 := cell_keep hb4 (b := w.heap.size) (o := 2) (u := .int .i64 0) (by simp)
 have g3 := cell_keep hb4 (b := w.heap.size) (o := 3) (u := .int .i64 0) (by simp)
 have g4 := cell_keep hb4 (b := w.heap.size) (o := 4) (u := .int .i64 0) (by simp)
 have g5 := cell_keep hb4 (b := w.heap.size) (o := 5) (u := .int .i64 p) (by simp)
 have HD := Lib.hid (And.intro g0 (And.intro g1 (And.intro g2 (And.intro g3 (And.intro g4 g5)))))
 clear hb4 HF HBA g1 g2 g3 g4 g5
 go_wp2_with fail
 refine wp_region_N (S := (fun w' => w'.cell? ⟨w.heap.size, 0, none⟩ = some (.int .i64 7))) (fun i => true) (by kernel_rfl) ?_ (fun hHeld => ?_)
 ·(try dsimp only)
  first
   | (with_reducible assumption)
   | (refine cell_keep ?_ g0 <;> (first | exact hbw4 | exact hbw4.drew | (go_grown; done)))
 refine tk (i := 1) (v := ?_) rfl (by kernel_rfl) (fun _ _ _ h => h) (Or.inl ⟨by first | kernel_rfl | rfl, ?_⟩) (by assumption) ?_
 rotate_left
 focus intro w hSw; (try dsimp only at hSw); go_simp; try with_reducible rfl
 try (unfold Act.put; dsimp only)
 refine tk (i := 2) (v := ?_) rfl (by kernel_rfl) (fun _ _ _ h => h) (Or.inl ⟨by first | kernel_rfl | rfl, ?_⟩) (by assumption) ?_
 rotate_left
 focus intro w hSw; (try dsimp only at hSw); go_simp; try with_reducible rfl
 try (unfold Act.put; dsimp only)
 refine wpAnyN_ready (rs := [0]) (by kernel_rfl) (by simp) ?_
 refine AllReadyN.cons rfl (fun K hK => ?_) ?_
 ·go_simp
  go_at_call 34
  refine (rnames_at _).mono ?_
  rintro e w5 ⟨rfl, hcs, hb5⟩
  have hnc : w5.cell? ⟨w4.heap.size, 7, none⟩ = some (.string NN) := by rw [← hNN]; exact hcs 7 (by omega)
  have hbw4 : Below w4.heap.size w4 w5 := Below.trans (show Below w4.heap.size w4 _ by first | exact Below.refl _ _ | exact (Below.refl _ _).drew) (hb5.mono (by first | exact Nat.le_refl _ | (simp; done)))
  dsimp only
  refine hK.out _ _ ?_ (fun hHeld => ?_)
  ·(try dsimp only)
   first
    | (with_reducible assumption)
    | (refine cell_keep ?_ g0 <;> (first | exact hbw4 | exact hbw4.drew | (go_grown; done)))
  clear hK K
  (try change wpAnyN _ _ _ _ _ _ _ _ (Act.put _ (some 14) _) _)
  try (unfold Act.put; dsimp only)
  refine tk (i := 3) (v := ?_) rfl (by kernel_rfl) (fun _ _ _ h => h) (Or.inl ⟨by first | kernel_rfl | rfl, ?_⟩) (by assumption) ?_
  rotate_left
  focus intro w hSw; (try dsimp only at hSw); go_simp; try with_reducible rfl
  try (unfold Act.put; dsimp only)
  refine wpAnyN_ready (rs := [4]) (by kernel_rfl) (by simp) ?_
  refine AllReadyN.cons rfl (fun K hK => ?_) ?_
  ·go_simp
   refine hK.out _ _ ?_ (fun hHeld => ?_)
   ·(try dsimp only)
    first
     | (with_reducible assumption)
     | (refine cell_keep ?_ g0 <;> (first | exact hbw4 | exact hbw4.drew | (go_grown; done)))
   clear hK K
   (try change wpAnyN _ _ _ _ _ _ _ _ (Act.put _ (some 18) _) _)
   try (unfold Act.put; dsimp only)
   refine tk (i := 5) (v := ?_) rfl (by kernel_rfl) (fun _ _ _ h => h) (Or.inl ⟨by first | kernel_rfl | rfl, ?_⟩) (by assumption) ?_
   rotate_left
   focus intro w hSw; (try dsimp only at hSw); go_simp; try with_reducible rfl
   try (unfold Act.put; dsimp only)
   refine wpAnyN_done (by kernel_rfl) ?_ _
   obtain ⟨f0, f1, f2, f3, f4, f5⟩ := HD.out
   have e0 := cell_keep hbw4 f0
   have e1 := cell_keep hbw4 f1
   have e2 := cell_keep hbw4 f2
   have e3 := cell_keep hbw4 f3
   have e4 := cell_keep hbw4 f4
   have e5 := cell_keep hbw4 f5
   have HB5 := Lib.hid (HB4.out.trans (hbw4.mono (Nat.le_of_lt HG4.out)))
   have HGW := Lib.hid (Nat.lt_of_lt_of_le HG4.out hbw4.size)
   clear f0 f1 f2 f3 f4 f5 hbw4 hnc hcs hb5
   go_wp2_with fail
   refine (HD1.out _).mono ?_
   rintro e w6 ⟨rfl, hb6⟩
   go_wp2
   go_ret2
   exact ⟨by rw [← HT.out] <;> rfl, HB5.out.trans (hb6.mono (Nat.le_of_lt HGW.out))⟩
  exact AllReadyN.nil
 exact AllReadyN.nil
set_option maxRecDepth 100000 in
set_option maxHeartbeats 4000000 in
theorem rentry_8 (p : Nat) (hp : p ≤ 99999999) (w : World) (hf : entB 8 0 0 0 0 (p : Int) = true) :
 Calls Tryz.prog 12 #[.agg #[.int .i64 8, .int .i64 0, .int .i64 0, .int .i64 0, .int .i64 0, .int .i64 p]] w fun e w' => e = .returned (.tuple #[.string (bsA (jnL 32 [entName 8, decL p])), .bool true]) ∧ Below w.heap.size w w' := by
 have hbA : Below w.heap.size w (w.alloc (.cells #[.int .i64 8, .int .i64 0, .int .i64 0, .int .i64 0, .int .i64 0, .int .i64 p] 25)) := (Below.refl _ _).alloc (Nat.le_refl _) _
 have HF := Lib.hid (fun W => bytes_yes 8 0 0 0 0 (p : Int) W hf)
 have HD1 := Lib.hid (fun W => d_any p W hp)
 have s1 : (decB p).size ≤ 8 := decB_size hp
 have sN : (bsA (entName 8)).size ≤ 8 := by decide
 have HT := Lib.hid (show (((bsA (entName 8) ++ ⟨#[32]⟩) ++ decB p) : ByteArray) = bsA (jnL 32 [entName 8, decL p]) from by
  rw [show (⟨#[32]⟩ : ByteArray) = bsA [32] from rfl]
  unfold decB
  simp only [bs_app, jnL]
  congr 1
  try simp)
 obtain ⟨NN, hNN⟩ : ∃ d, bsA (entName 8) = d := ⟨_, rfl⟩
 rw [hNN] at HT sN
 obtain ⟨d1, hd1⟩ : ∃ d, decB p = d := ⟨_, rfl⟩
 rw [hd1] at HD1 s1 HT
 clear hd1
 obtain ⟨X1, hX1, z1, y1⟩ := add_sp NN 8 sN (by decide)
 rw [hX1] at HT
 obtain ⟨X2, hX2, z2, y2⟩ := add_ex X1 d1 9 8 z1 s1 (by decide)
 rw [hX2] at HT
 clear z1 z2 s1 sN
 have HBA := Lib.hid hbA
 clear hf hbA
 go_enter Tryz.func12, Tryz.ntmps12
 go_wp2_with fail
 refine (HF.out _).mono ?_
 rintro e w4 ⟨⟨A, rfl, hrd⟩, hb4⟩
 clear hrd
 have HB4 := Lib.hid (HBA.out.trans (hb4.mono HBA.out.size))
 have HG4 := Lib.hid (show w.heap.size < w4.heap.size from Nat.lt_of_lt_of_le (by simp) hb4.size)
 have g0 := cell_keep hb4 (b := w.heap.size) (o := 0) (u := .int .i64 8) (by simp)
 have g1 := cell_keep hb4 (b := w.heap.size) (o := 1) (u := .int .i64 0) (by simp)
 have g2 := cell_keep hb4 (b := w.heap.size) (o := 2) (u := .int .i64 0) (by simp)
 have g3 := cell_keep hb4 (b := w.heap.size) (o := 3) (u := .int .i64 0) (by simp)
 have g4 := cell_keep hb4 (b := w.heap.size) (o := 4) (u := .int .i64 0) (by simp)
 have g5 := cell_keep hb4 (b := w.heap.size) (o := 5) (u := .int .i64 p) (by simp)
 have HD := Lib.hid (And.intro g0 (And.intro g1 (And.intro g2 (And.intro g3 (And.intro g4 g5)))))
 clear hb4 HF HBA g1 g2 g3 g4 g5
 go_wp2_with fail
 refine wp_region_N (S := (fun w' => w'.cell? ⟨w.heap.size, 0, none⟩ = some (.int .i64 8))) (fun i => true) (by kernel_rfl) ?_ (fun hHeld => ?_)
 ·(try dsimp only)
  first
   | (with_reducible assumption)
   | (refine cell_keep ?_ g0 <;> (first | exact hbw4 | exact hbw4.drew | (go_grown; done)))
 refine tk (i := 1) (v := ?_) rfl (by kernel_rfl) (fun _ _ _ h => h) (Or.inl ⟨by first | kernel_rfl | rfl, ?_⟩) (by assumption) ?_
 rotate_left
 focus intro w hSw; (try dsimp only at hSw); go_simp; try with_reducible rfl
 try (unfold Act.put; dsimp only)
 refine tk (i := 2) (v := ?_) rfl (by kernel_rfl) (fun _ _ _ h => h) (Or.inl ⟨by first | kernel_rfl | rfl, ?_⟩) (by assumption) ?_
 rotate_left
 focus intro w hSw; (try dsimp only at hSw); go_simp; try with_reducible rfl
 try (unfold Act.put; dsimp only)
 refine wpAnyN_ready (rs := [0]) (by kernel_rfl) (by simp) ?_
 refine AllReadyN.cons rfl (fun K hK => ?_) ?_
 ·go_simp
  go_at_call 34
  refine (rnames_at _).mono ?_
  rintro e w5 ⟨rfl, hcs, hb5⟩
  have hnc : w5.cell? ⟨w4.heap.size, 8, none⟩ = some (.string NN) := by rw [← hNN]; exact hcs 8 (by omega)
  have hbw4 : Below w4.heap.size w4 w5 := Below.trans (show Below w4.heap.size w4 _ by first | exact Below.refl _ _ | exact (Below.refl _ _).drew) (hb5.mono (by first | exact Nat.le_refl _ | (simp; done)))
  dsimp only
  refine hK.out _ _ ?_ (fun hHeld => ?_)
  ·(try dsimp only)
   first
    | (with_reducible assumption)
    | (refine cell_keep ?_ g0 <;> (first | exact hbw4 | exact hbw4.drew | (go_grown; done)))
  clear hK K
  (try change wpAnyN _ _ _ _ _ _ _ _ (Act.put _ (some 14) _) _)
  try (unfold Act.put; dsimp only)
  refine tk (i := 3) (v := ?_) rfl (by kernel_rfl) (fun _ _ _ h => h) (Or.inl ⟨by first | kernel_rfl | rfl, ?_⟩) (by assumption) ?_
  rotate_left
  focus intro w hSw; (try dsimp only at hSw); go_simp; try with_reducible rfl
  try (unfold Act.put; dsimp only)
  refine wpAnyN_ready (rs := [4]) (by kernel_rfl) (by simp) ?_
  refine AllReadyN.cons rfl (fun K hK => ?_) ?_
  ·go_simp
   refine hK.out _ _ ?_ (fun hHeld => ?_)
   ·(try dsimp only)
    first
     | (with_reducible assumption)
     | (refine cell_keep ?_ g0 <;> (first | exact hbw4 | exact hbw4.drew | (go_grown; done)))
   clear hK K
   (try change wpAnyN _ _ _ _ _ _ _ _ (Act.put _ (some 18) _) _)
   try (unfold Act.put; dsimp only)
   refine tk (i := 5) (v := ?_) rfl (by kernel_rfl) (fun _ _ _ h => h) (Or.inl ⟨by first | kernel_rfl | rfl, ?_⟩) (by assumption) ?_
   rotate_left
   focus intro w hSw; (try dsimp only at hSw); go_simp; try with_reducible rfl
   try (unfold Act.put; dsimp only)
   refine wpAnyN_done (by kernel_rfl) ?_ _
   obtain ⟨f0, f1, f2, f3, f4, f5⟩ := HD.out
   have e0 := cell_keep hbw4 f0
   have e1 := cell_keep hbw4 f1
   have e2 := cell_keep hbw4 f2
   have e3 := cell_keep hbw4 f3
   have e4 := cell_keep hbw4 f4
   have e5 := cell_keep hbw4 f5
   have HB5 := Lib.hid (HB4.out.trans (hbw4.mono (Nat.le_of_lt HG4.out)))
   have HGW := Lib.hid (Nat.lt_of_lt_of_le HG4.out hbw4.size)
   clear f0 f1 f2 f3 f4 f5 hbw4 hnc hcs hb5
   go_wp2_with fail
   refine (HD1.out _).mono ?_
   rintro e w6 ⟨rfl, hb6⟩
   go_wp2
   go_ret2
   exact ⟨by rw [← HT.out] <;> rfl, HB5.out.trans (hb6.mono (Nat.le_of_lt HGW.out))⟩
  exact AllReadyN.nil
 exact AllReadyN.nil
set_option maxRecDepth 100000 in
set_option maxHeartbeats 4000000 in
theorem rentry_9 (p : Nat) (hp : p ≤ 99999999) (w : World) (hf : entB 9 0 0 0 0 (p : Int) = true) :
 Calls Tryz.prog 12 #[.agg #[.int .i64 9, .int .i64 0, .int .i64 0, .int .i64 0, .int .i64 0, .int .i64 p]] w fun e w' => e = .returned (.tuple #[.string (bsA (jnL 32 [entName 9, decL p])), .bool true]) ∧ Below w.heap.size w w' := by
 have hbA : Below w.heap.size w (w.alloc (.cells #[.int .i64 9, .int .i64 0, .int .i64 0, .int .i64 0, .int .i64 0, .int .i64 p] 25)) := (Below.refl _ _).alloc (Nat.le_refl _) _
 have HF := Lib.hid (fun W => bytes_yes 9 0 0 0 0 (p : Int) W hf)
 have HD1 := Lib.hid (fun W => d_any p W hp)
 have s1 : (decB p).size ≤ 8 := decB_size hp
 have sN : (bsA (entName 9)).size ≤ 8 := by decide
 have HT := Lib.hid (show (((bsA (entName 9) ++ ⟨#[32]⟩) ++ decB p) : ByteArray) = bsA (jnL 32 [entName 9, decL p]) from by
  rw [show (⟨#[32]⟩ : ByteArray) = bsA [32] from rfl]
  unfold decB
  simp only [bs_app, jnL]
  congr 1
  try simp)
 obtain ⟨NN, hNN⟩ : ∃ d, bsA (entName 9) = d := ⟨_, rfl⟩
 rw [hNN] at HT sN
 obtain ⟨d1, hd1⟩ : ∃ d, decB p = d := ⟨_, rfl⟩
 rw [hd1] at HD1 s1 HT
 clear hd1
 obtain ⟨X1, hX1, z1, y1⟩ := add_sp NN 8 sN (by decide)
 rw [hX1] at HT
 obtain ⟨X2, hX2, z2, y2⟩ := add_ex X1 d1 9 8 z1 s1 (by decide)
 rw [hX2] at HT
 clear z1 z2 s1 sN
 have HBA := Lib.hid hbA
 clear hf hbA
 go_enter Tryz.func12, Tryz.ntmps12
 go_wp2_with fail
 refine (HF.out _).mono ?_
 rintro e w4 ⟨⟨A, rfl, hrd⟩, hb4⟩
 clear hrd
 have HB4 := Lib.hid (HBA.out.trans (hb4.mono HBA.out.size))
 have HG4 := Lib.hid (show w.heap.size < w4.heap.size from Nat.lt_of_lt_of_le (by simp) hb4.size)
 have g0 := cell_keep hb4 (b := w.heap.size) (o := 0) (u := .int .i64 9) (by simp)
 have g1 := cell_keep hb4 (b := w.heap.size) (o := 1) (u := .int .i64 0) (by simp)
 have g2 := cell_keep hb4 (b := w.heap.size) (o := 2) (u := .int .i64 0) (by simp)
 have g3 := cell_keep hb4 (b := w.heap.size) (o := 3) (u := .int .i64 0) (by simp)
 have g4 := cell_keep hb4 (b := w.heap.size) (o := 4) (u := .int .i64 0) (by simp)
 have g5 := cell_keep hb4 (b := w.heap.size) (o := 5) (u := .int .i64 p) (by simp)
 have HD := Lib.hid (And.intro g0 (And.intro g1 (And.intro g2 (And.intro g3 (And.intro g4 g5)))))
 clear hb4 HF HBA g1 g2 g3 g4 g5
 go_wp2_with fail
 refine wp_region_N (S := (fun w' => w'.cell? ⟨w.heap.size, 0, none⟩ = some (.int .i64 9))) (fun i => true) (by kernel_rfl) ?_ (fun hHeld => ?_)
 ·(try dsimp only)
  first
   | (with_reducible assumption)
   | (refine cell_keep ?_ g0 <;> (first | exact hbw4 | exact hbw4.drew | (go_grown; done)))
 refine tk (i := 1) (v := ?_) rfl (by kernel_rfl) (fun _ _ _ h => h) (Or.inl ⟨by first | kernel_rfl | rfl, ?_⟩) (by assumption) ?_
 rotate_left
 focus intro w hSw; (try dsimp only at hSw); go_simp; try with_reducible rfl
 try (unfold Act.put; dsimp only)
 refine tk (i := 2) (v := ?_) rfl (by kernel_rfl) (fun _ _ _ h => h) (Or.inl ⟨by first | kernel_rfl | rfl, ?_⟩) (by assumption) ?_
 rotate_left
 focus intro w hSw; (try dsimp only at hSw); go_simp; try with_reducible rfl
 try (unfold Act.put; dsimp only)
 refine wpAnyN_ready (rs := [0]) (by kernel_rfl) (by simp) ?_
 refine AllReadyN.cons rfl (fun K hK => ?_) ?_
 ·go_simp
  go_at_call 34
  refine (rnames_at _).mono ?_
  rintro e w5 ⟨rfl, hcs, hb5⟩
  have hnc : w5.cell? ⟨w4.heap.size, 9, none⟩ = some (.string NN) := by rw [← hNN]; exact hcs 9 (by omega)
  have hbw4 : Below w4.heap.size w4 w5 := Below.trans (show Below w4.heap.size w4 _ by first | exact Below.refl _ _ | exact (Below.refl _ _).drew) (hb5.mono (by first | exact Nat.le_refl _ | (simp; done)))
  dsimp only
  refine hK.out _ _ ?_ (fun hHeld => ?_)
  ·(try dsimp only)
   first
    | (with_reducible assumption)
    | (refine cell_keep ?_ g0 <;> (first | exact hbw4 | exact hbw4.drew | (go_grown; done)))
  clear hK K
  (try change wpAnyN _ _ _ _ _ _ _ _ (Act.put _ (some 14) _) _)
  try (unfold Act.put; dsimp only)
  refine tk (i := 3) (v := ?_) rfl (by kernel_rfl) (fun _ _ _ h => h) (Or.inl ⟨by first | kernel_rfl | rfl, ?_⟩) (by assumption) ?_
  rotate_left
  focus intro w hSw; (try dsimp only at hSw); go_simp; try with_reducible rfl
  try (unfold Act.put; dsimp only)
  refine wpAnyN_ready (rs := [4]) (by kernel_rfl) (by simp) ?_
  refine AllReadyN.cons rfl (fun K hK => ?_) ?_
  ·go_simp
   refine hK.out _ _ ?_ (fun hHeld => ?_)
   ·(try dsimp only)
    first
     | (with_reducible assumption)
     | (refine cell_keep ?_ g0 <;> (first | exact hbw4 | exact hbw4.drew | (go_grown; done)))
   clear hK K
   (try change wpAnyN _ _ _ _ _ _ _ _ (Act.put _ (some 18) _) _)
   try (unfold Act.put; dsimp only)
   refine tk (i := 5) (v := ?_) rfl (by kernel_rfl) (fun _ _ _ h => h) (Or.inl ⟨by first | kernel_rfl | rfl, ?_⟩) (by assumption) ?_
   rotate_left
   focus intro w hSw; (try dsimp only at hSw); go_simp; try with_reducible rfl
   try (unfold Act.put; dsimp only)
   refine wpAnyN_done (by kernel_rfl) ?_ _
   obtain ⟨f0, f1, f2, f3, f4, f5⟩ := HD.out
   have e0 := cell_keep hbw4 f0
   have e1 := cell_keep hbw4 f1
   have e2 := cell_keep hbw4 f2
   have e3 := cell_keep hbw4 f3
   have e4 := cell_keep hbw4 f4
   have e5 := cell_keep hbw4 f5
   have HB5 := Lib.hid (HB4.out.trans (hbw4.mono (Nat.le_of_lt HG4.out)))
   have HGW := Lib.hid (Nat.lt_of_lt_of_le HG4.out hbw4.size)
   clear f0 f1 f2 f3 f4 f5 hbw4 hnc hcs hb5
   go_wp2_with fail
   refine (HD1.out _).mono ?_
   rintro e w6 ⟨rfl, hb6⟩
   go_wp2
   go_ret2
   exact ⟨by rw [← HT.out] <;> rfl, HB5.out.trans (hb6.mono (Nat.le_of_lt HGW.out))⟩
  exact AllReadyN.nil
 exact AllReadyN.nil
theorem rentry_ok (e : Ent) (h : e.may = true) (w : World) :
 Calls Tryz.prog 12 #[.agg (entA e)] w fun r w' => r = .returned (.tuple #[.string (bsA (entT e)), .bool true]) ∧ Below w.heap.size w w' := by
 have hff := h
 unfold entT
 rcases may_cases h with ⟨hk, q⟩ | ⟨q, a1, a2, b1, b2, c1, c2, d1, d2⟩ | ⟨hk, q, a1, a2⟩ | ⟨hk, q, a1, a2⟩
 ·rw [q] at hff ⊢
  generalize e.k = k at *
  rcases hk with rfl | rfl
  ·exact rentry_0 w hff
  ·exact rentry_1 w hff
 ·rw [q] at hff ⊢
  generalize e.c = x at *
  generalize e.t = t at *
  generalize e.r = r at *
  generalize e.m = m at *
  obtain ⟨n, rfl⟩ := Int.eq_ofNat_of_zero_le (show 0 ≤ x by omega)
  obtain ⟨t, rfl⟩ := Int.eq_ofNat_of_zero_le (show 0 ≤ t by omega)
  obtain ⟨r, rfl⟩ := Int.eq_ofNat_of_zero_le (show 0 ≤ r by omega)
  obtain ⟨m, rfl⟩ := Int.eq_ofNat_of_zero_le (show 0 ≤ m by omega)
  exact rentry_3 n t r m (by omega) (by omega) (by omega) (by omega) w hff
 ·rw [q] at hff ⊢
  generalize e.c = x at *
  generalize e.k = k at *
  obtain ⟨n, rfl⟩ := Int.eq_ofNat_of_zero_le (show 0 ≤ x by omega)
  rcases hk with rfl | rfl | rfl | rfl
  ·exact rentry_2 n (by omega) w hff
  ·exact rentry_4 n (by omega) w hff
  ·exact rentry_5 n (by omega) w hff
  ·exact rentry_6 n (by omega) w hff
 ·rw [q] at hff ⊢
  generalize e.p = x at *
  generalize e.k = k at *
  obtain ⟨n, rfl⟩ := Int.eq_ofNat_of_zero_le (show 0 ≤ x by omega)
  rcases hk with rfl | rfl | rfl
  ·exact rentry_7 n (by omega) w hff
  ·exact rentry_8 n (by omega) w hff
  ·exact rentry_9 n (by omega) w hff
set_option maxHeartbeats 1000000 in
theorem rentry_any (e : Ent) (w : World) :
 Calls Tryz.prog 12 #[.agg (entA e)] w fun r w' => r = .returned (.tuple #[.string (bsA (entS e)), .bool e.may]) ∧ Below w.heap.size w w' := by
 by_cases hok : e.may = true
 ·have := rentry_ok e hok w
  rw [show entS e = entT e from if_pos hok, hok]
  exact this
 ·have HS := Lib.hid (show entS e = [] from if_neg hok)
  have hmf : e.may = false := by simpa using hok
  have HE := Lib.hid hmf
  have HF := Lib.hid (fun W => bytes_no e.k e.c e.t e.r e.m e.p W hok)
  clear hmf hok
  obtain ⟨k, c, t, r, m, p⟩ := e
  unfold entA
  simp only at HF ⊢
  go_enter Tryz.func12, Tryz.ntmps12
  go_wp2_with fail
  refine (HF.out _).mono ?_
  rintro e w5 ⟨rfl, hb5⟩
  go_wp2
  go_ret2
  exact ⟨by rw [HS.out, HE.out]; rfl, ((Below.refl _ _).alloc (Nat.le_refl _) _).trans (hb5.mono (by simp))⟩
end Go.Proofs.YtjpjlfjaapfnkaaGreatDoor

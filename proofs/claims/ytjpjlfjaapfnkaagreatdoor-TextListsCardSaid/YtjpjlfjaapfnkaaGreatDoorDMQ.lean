/-
  The document's Form, Told, Event. No conditions beyond those that each theorem states.
-/
import Derived.Test.YtjpjlfjaapfnkaaGreatDoorDMRa
import Derived.Test.YtjpjlfjaapfnkaaGreatDoorDMRb
import Derived.Test.YtjpjlfjaapfnkaaGreatDoorDMRc
import Derived.Test.YtjpjlfjaapfnkaaGreatDoorDMD
import Derived.Test.YtjpjlfjaapfnkaaGreatDoorDMC
set_option linter.unusedVariables false
set_option linter.unusedSimpArgs false
namespace Go.Proofs.YtjpjlfjaapfnkaaGreatDoor.C20
open Go.ChangeShapes Go.WideShapes Go.ChangeAt Go.RowKit Go.Maps
theorem rform_low {k c x t r m q : Int} (h : k < 1) : formB ⟨k, c, x, t, r, m, q⟩ = false := by
 have h1 : ¬ k = 1 := by omega
 have h2 : ¬ k = 2 := by omega
 have h3 : ¬ k = 3 := by omega
 have h4 : ¬ k = 4 := by omega
 have h5 : ¬ k = 5 := by omega
 have h6 : ¬ k = 6 := by omega
 have h7 : ¬ k = 7 := by omega
 have h8 : ¬ k = 8 := by omega
 unfold formB
 simp [h1, h2, h3, h4, h5, h6, h7, h8]
theorem rform_high {k c x t r m q : Int} (h : 8 < k) : formB ⟨k, c, x, t, r, m, q⟩ = false := by
 have h1 : ¬ k = 1 := by omega
 have h2 : ¬ k = 2 := by omega
 have h3 : ¬ k = 3 := by omega
 have h4 : ¬ k = 4 := by omega
 have h5 : ¬ k = 5 := by omega
 have h6 : ¬ k = 6 := by omega
 have h7 : ¬ k = 7 := by omega
 have h8 : ¬ k = 8 := by omega
 unfold formB
 simp [h1, h2, h3, h4, h5, h6, h7, h8]
set_option maxHeartbeats 1000000 in
theorem rform_any (e : Ev) (w : World) :
 Calls Tryz.prog 50 #[.agg (evC e)] w fun r w' => r = .returned (.bool (formB e)) ∧ Below w.heap.size w w' := by
 obtain ⟨k, c, x, t, r, m, q⟩ := e
 unfold evC
 dsimp only
 by_cases h1 : k < 1
 ·have hb : Hid (formB ⟨k, c, x, t, r, m, q⟩ = false) := Lib.hid (rform_low h1)
  go_enter Tryz.func50, Tryz.ntmps50
  go_wp2
  go_ret
  exact ⟨by rw [hb.out] <;> rfl, by go_grown⟩
 ·by_cases h8 : 8 < k
  ·have hb : Hid (formB ⟨k, c, x, t, r, m, q⟩ = false) := Lib.hid (rform_high h8)
   go_enter Tryz.func50, Tryz.ntmps50
   go_wp2
   go_ret
   exact ⟨by rw [hb.out] <;> rfl, by go_grown⟩
  ·obtain rfl | rfl | rfl | rfl | rfl | rfl | rfl | rfl : k = 1 ∨ k = 2 ∨ k = 3 ∨ k = 4 ∨ k = 5 ∨ k = 6 ∨ k = 7 ∨ k = 8 := by omega
   ·exact rform1 c x t r m q w
   ·exact rform2 c x t r m q w
   ·exact rform3 c x t r m q w
   ·exact rform4 c x t r m q w
   ·exact rform5 c x t r m q w
   ·exact rform6 c x t r m q w
   ·exact rform7 c x t r m q w
   ·exact rform8 c x t r m q w
end Go.Proofs.YtjpjlfjaapfnkaaGreatDoor.C20
namespace Go.Proofs.YtjpjlfjaapfnkaaGreatDoor
open Go.ChangeShapes Go.WideShapes Go.ChangeAt Go.RowKit
def evNames : Array Value := #[.string ⟨#[98, 101, 103, 97, 110]⟩, .string ⟨#[97, 115, 107, 101, 100]⟩, .string ⟨#[103, 114, 97, 110, 116, 101, 100]⟩, .string ⟨#[114, 101, 102, 117, 115, 101, 100]⟩, .string ⟨#[102, 105, 110, 105, 115, 104]⟩, .string ⟨#[99, 111, 109, 109, 105, 116, 116, 101, 100]⟩, .string ⟨#[97, 98, 111, 114, 116, 101, 100]⟩, .string ⟨#[99, 114, 97, 115, 104, 101, 100]⟩]
def tellW (w : World) (k c x t r m q : Int) : World := (w.alloc (.cells #[.int .i64 k, .int .i64 c, .int .i64 x, .int .i64 t, .int .i64 r, .int .i64 m, .int .i64 q] 44)).alloc (.cells #[.string ⟨#[98, 101, 103, 97, 110]⟩, .string ⟨#[97, 115, 107, 101, 100]⟩, .string ⟨#[103, 114, 97, 110, 116, 101, 100]⟩, .string ⟨#[114, 101, 102, 117, 115, 101, 100]⟩, .string ⟨#[102, 105, 110, 105, 115, 104]⟩, .string ⟨#[99, 111, 109, 109, 105, 116, 116, 101, 100]⟩, .string ⟨#[97, 98, 111, 114, 116, 101, 100]⟩, .string ⟨#[99, 114, 97, 115, 104, 101, 100]⟩] 9)
theorem tell_below (w : World) (k c x t r m q : Int) : Below w.heap.size w (tellW w k c x t r m q) := by unfold tellW; go_grown
theorem tell_cells (w : World) (k c x t r m q : Int) :
 (tellW w k c x t r m q).cell? ⟨w.heap.size, 1, none⟩ = some (.int .i64 c) ∧ (tellW w k c x t r m q).cell? ⟨w.heap.size, 2, none⟩ = some (.int .i64 x) ∧ (tellW w k c x t r m q).cell? ⟨w.heap.size, 3, none⟩ = some (.int .i64 t) ∧ (tellW w k c x t r m q).cell? ⟨w.heap.size, 4, none⟩ = some (.int .i64 r) ∧ (tellW w k c x t r m q).cell? ⟨w.heap.size, 5, none⟩ = some (.int .i64 m) ∧ (tellW w k c x t r m q).cell? ⟨w.heap.size, 6, none⟩ = some (.int .i64 q) := by
 unfold tellW; refine ⟨?_, ?_, ?_, ?_, ?_, ?_⟩ <;> simp
theorem tell_size (w : World) (k c x t r m q : Int) : w.heap.size < (tellW w k c x t r m q).heap.size := by unfold tellW; simp; omega
set_option maxRecDepth 100000 in
set_option maxHeartbeats 4000000 in
theorem told_1 (x c : Nat) (hx : x ≤ 99999999) (hc : c ≤ 99999999) (w : World) :
 Calls Tryz.prog 51 #[.agg #[.int .i64 1, .int .i64 c, .int .i64 x, .int .i64 0, .int .i64 0, .int .i64 0, .int .i64 0]] w fun e w' => e = .returned (.string (bsA (jnL 32 [evName 1, decL x, decL c]))) ∧ Below w.heap.size w w' := by
 have HD1 := Lib.hid (fun W => d23_any x W hx)
 have s1 : (decB x).size ≤ 8 := decB_size hx
 have HD2 := Lib.hid (fun W => d23_any c W hc)
 have s2 : (decB c).size ≤ 8 := decB_size hc
 have HT := Lib.hid (show (((((⟨#[98, 101, 103, 97, 110]⟩ ++ ⟨#[32]⟩) ++ decB x) ++ ⟨#[32]⟩) ++ decB c) : ByteArray) = bsA (jnL 32 [evName 1, decL x, decL c]) from by
  rw [show (⟨#[98, 101, 103, 97, 110]⟩ : ByteArray) = bsA (evName 1) from rfl, show (⟨#[32]⟩ : ByteArray) = bsA [32] from rfl]
  unfold decB
  simp only [bs_app, jnL]
  congr 1
  try simp)
 obtain ⟨d1, hd1⟩ : ∃ d, decB x = d := ⟨_, rfl⟩
 obtain ⟨d2, hd2⟩ : ∃ d, decB c = d := ⟨_, rfl⟩
 rw [hd1] at HD1 s1
 rw [hd2] at HD2 s2
 rw [hd2, hd1] at HT
 clear hd1 hd2
 obtain ⟨X1, hX1, z1, y1⟩ := add_sp ⟨#[98, 101, 103, 97, 110]⟩ 5 (by decide) (by decide)
 rw [hX1] at HT
 obtain ⟨X2, hX2, z2, y2⟩ := add_ex X1 d1 6 8 z1 s1 (by decide)
 rw [hX2] at HT
 obtain ⟨X3, hX3, z3, y3⟩ := add_sp X2 14 z2 (by decide)
 rw [hX3] at HT
 obtain ⟨X4, hX4, z4, y4⟩ := add_ex X3 d2 15 8 z3 s2 (by decide)
 rw [hX4] at HT
 clear z1 z2 z3 z4 s1 s2
 have HBW := Lib.hid (tell_below w 1 c x 0 0 0 0)
 obtain ⟨e1, e2, e3, e4, e5, e6⟩ := tell_cells w 1 c x 0 0 0 0
 have hgw := tell_size w 1 c x 0 0 0 0
 obtain ⟨W, hW⟩ : ∃ W, tellW w 1 c x 0 0 0 0 = W := ⟨_, rfl⟩
 rw [hW] at HBW e1 e2 e3 e4 e5 e6 hgw
 have HWW := Lib.hid hW
 clear hW
 go_enter Tryz.func51, Tryz.ntmps51
 go_wp2_with fail
 unfold tellW at HWW
 rw [HWW.out]
 obtain ⟨g, hg⟩ : ∃ g, w.heap.size = g := ⟨_, rfl⟩
 rw [hg] at e1 e2 e3 e4 e5 e6 hgw HBW ⊢
 clear HWW
 refine wp_region_N (S := (fun w' => w'.cell? ⟨g, 1, none⟩ = some (.int .i64 c) ∧ w'.cell? ⟨g, 2, none⟩ = some (.int .i64 x))) (fun i => true) (by kernel_rfl) ?_ (fun hHeld => ?_)
 ·(try dsimp only)
  first
   | (refine ⟨?_, ?_⟩ <;> with_reducible assumption)
   | (refine ⟨cell_keep ?_ e1, cell_keep ?_ e2⟩ <;> (first | exact hbw5 | (go_grown; done)))
 refine tk (i := 0) (v := ?_) rfl (by kernel_rfl) (fun _ _ _ h => h) (Or.inl ⟨by first | kernel_rfl | rfl, ?_⟩) (by assumption) ?_
 rotate_left
 focus intro w hSw; (try dsimp only at hSw); go_simp; try with_reducible rfl
 try (unfold Act.put; dsimp only)
 refine tk (i := 1) (v := ?_) rfl (by kernel_rfl) (fun _ _ _ h => h) (Or.inl ⟨by first | kernel_rfl | rfl, ?_⟩) (by assumption) ?_
 rotate_left
 focus intro w hSw; (try dsimp only at hSw); go_simp; try with_reducible rfl
 try (unfold Act.put; dsimp only)
 refine tk (i := 2) (v := ?_) rfl (by kernel_rfl) (fun _ _ _ h => h) (Or.inl ⟨by first | kernel_rfl | rfl, ?_⟩) (by assumption) ?_
 rotate_left
 focus intro w hSw; (try dsimp only at hSw); go_simp; try with_reducible rfl
 try (unfold Act.put; dsimp only)
 refine tk (i := 3) (v := ?_) rfl (by kernel_rfl) (fun _ _ _ h => h) (Or.inl ⟨by first | kernel_rfl | rfl, ?_⟩) (by assumption) ?_
 rotate_left
 focus intro w hSw; (try dsimp only at hSw); go_simp; try with_reducible rfl
 try (unfold Act.put; dsimp only)
 refine tk (i := 7) (v := ?_) rfl (by kernel_rfl) (fun _ _ _ h => h) (Or.inl ⟨by first | kernel_rfl | rfl, ?_⟩) (by assumption) ?_
 rotate_left
 focus intro w hSw; (try dsimp only at hSw); go_simp; try with_reducible rfl
 try (unfold Act.put; dsimp only)
 refine tk (i := 8) (v := ?_) rfl (by kernel_rfl) (fun _ _ _ h => h) (Or.inl ⟨by first | kernel_rfl | rfl, ?_⟩) (by assumption) ?_
 rotate_left
 focus intro w hSw; (try dsimp only at hSw); go_simp; try with_reducible rfl
 try (unfold Act.put; dsimp only)
 refine wpAnyN_ready (rs := [4]) (by kernel_rfl) (by simp) ?_
 refine AllReadyN.cons rfl (fun K hK => ?_) ?_
 ·go_simp
  go_at_call 83
  refine (HD1.out _).mono ?_
  rintro e w5 ⟨rfl, hb5⟩
  have hbw5 : Below W.heap.size W w5 := Below.trans (show Below W.heap.size W _ by first | exact Below.refl _ _ | exact (Below.refl _ _).drew | exact hbw5 | go_grown) (hb5.mono (by first | exact Nat.le_refl _ | exact hbw5.size | (simp; done)))
  dsimp only
  refine hK.out _ _ ?_ (fun hHeld => ?_)
  ·(try dsimp only)
   first
    | (refine ⟨?_, ?_⟩ <;> with_reducible assumption)
    | (refine ⟨cell_keep ?_ e1, cell_keep ?_ e2⟩ <;> (first | exact hbw5 | (go_grown; done)))
  clear hK K
  (try change wpAnyN _ _ _ _ _ _ _ _ (Act.put _ (some 20) _) _)
  try (unfold Act.put; dsimp only)
  refine tk (i := 5) (v := ?_) rfl (by kernel_rfl) (fun _ _ _ h => h) (Or.inl ⟨by first | kernel_rfl | rfl, ?_⟩) (by assumption) ?_
  rotate_left
  focus intro w hSw; (try dsimp only at hSw); go_simp; try with_reducible rfl
  try (unfold Act.put; dsimp only)
  refine tk (i := 6) (v := ?_) rfl (by kernel_rfl) (fun _ _ _ h => h) (Or.inl ⟨by first | kernel_rfl | rfl, ?_⟩) (by assumption) ?_
  rotate_left
  focus intro w hSw; (try dsimp only at hSw); go_simp; try with_reducible rfl
  try (unfold Act.put; dsimp only)
  refine wpAnyN_ready (rs := [9]) (by kernel_rfl) (by simp) ?_
  refine AllReadyN.cons rfl (fun K hK => ?_) ?_
  ·go_simp
   go_at_call 83
   refine (HD2.out _).mono ?_
   rintro e w5 ⟨rfl, hb5⟩
   have hbw5 : Below W.heap.size W w5 := Below.trans (show Below W.heap.size W _ by first | exact Below.refl _ _ | exact (Below.refl _ _).drew | exact hbw5 | go_grown) (hb5.mono (by first | exact Nat.le_refl _ | exact hbw5.size | (simp; done)))
   dsimp only
   refine hK.out _ _ ?_ (fun hHeld => ?_)
   ·(try dsimp only)
    first
     | (refine ⟨?_, ?_⟩ <;> with_reducible assumption)
     | (refine ⟨cell_keep ?_ e1, cell_keep ?_ e2⟩ <;> (first | exact hbw5 | (go_grown; done)))
   clear hK K
   (try change wpAnyN _ _ _ _ _ _ _ _ (Act.put _ (some 25) _) _)
   try (unfold Act.put; dsimp only)
   refine tk (i := 10) (v := ?_) rfl (by kernel_rfl) (fun _ _ _ h => h) (Or.inl ⟨by first | kernel_rfl | rfl, ?_⟩) (by assumption) ?_
   rotate_left
   focus intro w hSw; (try dsimp only at hSw); go_simp; try with_reducible rfl
   try (unfold Act.put; dsimp only)
   refine tk (i := 11) (v := ?_) rfl (by kernel_rfl) (fun _ _ _ h => h) (Or.inl ⟨by first | kernel_rfl | rfl, ?_⟩) (by assumption) ?_
   rotate_left
   focus intro w hSw; (try dsimp only at hSw); go_simp; try with_reducible rfl
   try (unfold Act.put; dsimp only)
   refine wpAnyN_done (by kernel_rfl) ?_ _
   go_wp2
   go_ret
   rw [hg]
   exact ⟨by rw [← HT.out] <;> rfl, HBW.out.trans (hbw5.mono (Nat.le_of_lt hgw))⟩
  exact AllReadyN.nil
 exact AllReadyN.nil
set_option maxRecDepth 100000 in
set_option maxHeartbeats 4000000 in
theorem told_2 (x t r m : Nat) (hx : x ≤ 99999999) (ht : t ≤ 250) (hr : r ≤ 250) (hm : m ≤ 4) (w : World) :
 Calls Tryz.prog 51 #[.agg #[.int .i64 2, .int .i64 0, .int .i64 x, .int .i64 t, .int .i64 r, .int .i64 m, .int .i64 0]] w fun e w' => e = .returned (.string (bsA (jnL 32 [evName 2, decL x, textL t r, modeL m]))) ∧ Below w.heap.size w w' := by
 have HD1 := Lib.hid (fun W => d23_any x W hx)
 have s1 : (decB x).size ≤ 8 := decB_size hx
 have HD2 := Lib.hid (fun W => text_any t r W (by omega) (by omega))
 have s2 : (textB t r).size ≤ 8 := textB_le ht hr
 have HD3 := Lib.hid (fun W => mode23_any m W hm)
 have s3 : (bsA (modeL m)).size ≤ 8 := modeL_le m
 have HT := Lib.hid (show (((((((⟨#[97, 115, 107, 101, 100]⟩ ++ ⟨#[32]⟩) ++ decB x) ++ ⟨#[32]⟩) ++ textB t r) ++ ⟨#[32]⟩) ++ bsA (modeL m)) : ByteArray) = bsA (jnL 32 [evName 2, decL x, textL t r, modeL m]) from by
  rw [show (⟨#[97, 115, 107, 101, 100]⟩ : ByteArray) = bsA (evName 2) from rfl, show (⟨#[32]⟩ : ByteArray) = bsA [32] from rfl]
  unfold decB; rw [show textB t r = bsA (textL t r) from rfl]
  simp only [bs_app, jnL]
  congr 1
  try simp)
 obtain ⟨d1, hd1⟩ : ∃ d, decB x = d := ⟨_, rfl⟩
 obtain ⟨d2, hd2⟩ : ∃ d, textB t r = d := ⟨_, rfl⟩
 obtain ⟨d3, hd3⟩ : ∃ d, bsA (modeL m) = d := ⟨_, rfl⟩
 rw [hd1] at HD1 s1
 rw [hd2] at HD2 s2
 rw [hd3] at HD3 s3
 rw [hd3, hd2, hd1] at HT
 clear hd1 hd2 hd3
 obtain ⟨X1, hX1, z1, y1⟩ := add_sp ⟨#[97, 115, 107, 101, 100]⟩ 5 (by decide) (by decide)
 rw [hX1] at HT
 obtain ⟨X2, hX2, z2, y2⟩ := add_ex X1 d1 6 8 z1 s1 (by decide)
 rw [hX2] at HT
 obtain ⟨X3, hX3, z3, y3⟩ := add_sp X2 14 z2 (by decide)
 rw [hX3] at HT
 obtain ⟨X4, hX4, z4, y4⟩ := add_ex X3 d2 15 8 z3 s2 (by decide)
 rw [hX4] at HT
 obtain ⟨X5, hX5, z5, y5⟩ := add_sp X4 23 z4 (by decide)
 rw [hX5] at HT
 obtain ⟨X6, hX6, z6, y6⟩ := add_ex X5 d3 24 8 z5 s3 (by decide)
 rw [hX6] at HT
 clear z1 z2 z3 z4 z5 z6 s1 s2 s3
 have HBW := Lib.hid (tell_below w 2 0 x t r m 0)
 obtain ⟨e1, e2, e3, e4, e5, e6⟩ := tell_cells w 2 0 x t r m 0
 have hgw := tell_size w 2 0 x t r m 0
 obtain ⟨W, hW⟩ : ∃ W, tellW w 2 0 x t r m 0 = W := ⟨_, rfl⟩
 rw [hW] at HBW e1 e2 e3 e4 e5 e6 hgw
 have HWW := Lib.hid hW
 clear hW
 go_enter Tryz.func51, Tryz.ntmps51
 go_wp2_with fail
 unfold tellW at HWW
 rw [HWW.out]
 obtain ⟨g, hg⟩ : ∃ g, w.heap.size = g := ⟨_, rfl⟩
 rw [hg] at e1 e2 e3 e4 e5 e6 hgw HBW ⊢
 clear HWW
 refine wp_region_N (S := (fun w' => w'.cell? ⟨g, 2, none⟩ = some (.int .i64 x) ∧ w'.cell? ⟨g, 3, none⟩ = some (.int .i64 t) ∧ w'.cell? ⟨g, 4, none⟩ = some (.int .i64 r) ∧ w'.cell? ⟨g, 5, none⟩ = some (.int .i64 m))) (fun i => true) (by kernel_rfl) ?_ (fun hHeld => ?_)
 ·(try dsimp only)
  first
   | (refine ⟨?_, ?_, ?_, ?_⟩ <;> with_reducible assumption)
   | (refine ⟨cell_keep ?_ e2, cell_keep ?_ e3, cell_keep ?_ e4, cell_keep ?_ e5⟩ <;> (first | exact hbw5 | (go_grown; done)))
 refine tk (i := 0) (v := ?_) rfl (by kernel_rfl) (fun _ _ _ h => h) (Or.inl ⟨by first | kernel_rfl | rfl, ?_⟩) (by assumption) ?_
 rotate_left
 focus intro w hSw; (try dsimp only at hSw); go_simp; try with_reducible rfl
 try (unfold Act.put; dsimp only)
 refine tk (i := 1) (v := ?_) rfl (by kernel_rfl) (fun _ _ _ h => h) (Or.inl ⟨by first | kernel_rfl | rfl, ?_⟩) (by assumption) ?_
 rotate_left
 focus intro w hSw; (try dsimp only at hSw); go_simp; try with_reducible rfl
 try (unfold Act.put; dsimp only)
 refine tk (i := 2) (v := ?_) rfl (by kernel_rfl) (fun _ _ _ h => h) (Or.inl ⟨by first | kernel_rfl | rfl, ?_⟩) (by assumption) ?_
 rotate_left
 focus intro w hSw; (try dsimp only at hSw); go_simp; try with_reducible rfl
 try (unfold Act.put; dsimp only)
 refine tk (i := 3) (v := ?_) rfl (by kernel_rfl) (fun _ _ _ h => h) (Or.inl ⟨by first | kernel_rfl | rfl, ?_⟩) (by assumption) ?_
 rotate_left
 focus intro w hSw; (try dsimp only at hSw); go_simp; try with_reducible rfl
 try (unfold Act.put; dsimp only)
 refine tk (i := 7) (v := ?_) rfl (by kernel_rfl) (fun _ _ _ h => h) (Or.inl ⟨by first | kernel_rfl | rfl, ?_⟩) (by assumption) ?_
 rotate_left
 focus intro w hSw; (try dsimp only at hSw); go_simp; try with_reducible rfl
 try (unfold Act.put; dsimp only)
 refine tk (i := 8) (v := ?_) rfl (by kernel_rfl) (fun _ _ _ h => h) (Or.inl ⟨by first | kernel_rfl | rfl, ?_⟩) (by assumption) ?_
 rotate_left
 focus intro w hSw; (try dsimp only at hSw); go_simp; try with_reducible rfl
 try (unfold Act.put; dsimp only)
 refine tk (i := 12) (v := ?_) rfl (by kernel_rfl) (fun _ _ _ h => h) (Or.inl ⟨by first | kernel_rfl | rfl, ?_⟩) (by assumption) ?_
 rotate_left
 focus intro w hSw; (try dsimp only at hSw); go_simp; try with_reducible rfl
 try (unfold Act.put; dsimp only)
 refine tk (i := 13) (v := ?_) rfl (by kernel_rfl) (fun _ _ _ h => h) (Or.inl ⟨by first | kernel_rfl | rfl, ?_⟩) (by assumption) ?_
 rotate_left
 focus intro w hSw; (try dsimp only at hSw); go_simp; try with_reducible rfl
 try (unfold Act.put; dsimp only)
 refine wpAnyN_ready (rs := [4]) (by kernel_rfl) (by simp) ?_
 refine AllReadyN.cons rfl (fun K hK => ?_) ?_
 ·go_simp
  go_at_call 83
  refine (HD1.out _).mono ?_
  rintro e w5 ⟨rfl, hb5⟩
  have hbw5 : Below W.heap.size W w5 := Below.trans (show Below W.heap.size W _ by first | exact Below.refl _ _ | exact (Below.refl _ _).drew | exact hbw5 | go_grown) (hb5.mono (by first | exact Nat.le_refl _ | exact hbw5.size | (simp; done)))
  dsimp only
  refine hK.out _ _ ?_ (fun hHeld => ?_)
  ·(try dsimp only)
   first
    | (refine ⟨?_, ?_, ?_, ?_⟩ <;> with_reducible assumption)
    | (refine ⟨cell_keep ?_ e2, cell_keep ?_ e3, cell_keep ?_ e4, cell_keep ?_ e5⟩ <;> (first | exact hbw5 | (go_grown; done)))
  clear hK K
  (try change wpAnyN _ _ _ _ _ _ _ _ (Act.put _ (some 34) _) _)
  try (unfold Act.put; dsimp only)
  refine tk (i := 5) (v := ?_) rfl (by kernel_rfl) (fun _ _ _ h => h) (Or.inl ⟨by first | kernel_rfl | rfl, ?_⟩) (by assumption) ?_
  rotate_left
  focus intro w hSw; (try dsimp only at hSw); go_simp; try with_reducible rfl
  try (unfold Act.put; dsimp only)
  refine tk (i := 6) (v := ?_) rfl (by kernel_rfl) (fun _ _ _ h => h) (Or.inl ⟨by first | kernel_rfl | rfl, ?_⟩) (by assumption) ?_
  rotate_left
  focus intro w hSw; (try dsimp only at hSw); go_simp; try with_reducible rfl
  try (unfold Act.put; dsimp only)
  refine wpAnyN_ready (rs := [9]) (by kernel_rfl) (by simp) ?_
  refine AllReadyN.cons rfl (fun K hK => ?_) ?_
  ·go_simp
   go_at_call 36
   refine (HD2.out _).mono ?_
   rintro e w5 ⟨rfl, hb5⟩
   have hbw5 : Below W.heap.size W w5 := Below.trans (show Below W.heap.size W _ by first | exact Below.refl _ _ | exact (Below.refl _ _).drew | exact hbw5 | go_grown) (hb5.mono (by first | exact Nat.le_refl _ | exact hbw5.size | (simp; done)))
   dsimp only
   refine hK.out _ _ ?_ (fun hHeld => ?_)
   ·(try dsimp only)
    first
     | (refine ⟨?_, ?_, ?_, ?_⟩ <;> with_reducible assumption)
     | (refine ⟨cell_keep ?_ e2, cell_keep ?_ e3, cell_keep ?_ e4, cell_keep ?_ e5⟩ <;> (first | exact hbw5 | (go_grown; done)))
   clear hK K
   (try change wpAnyN _ _ _ _ _ _ _ _ (Act.put _ (some 39) _) _)
   try (unfold Act.put; dsimp only)
   refine tk (i := 10) (v := ?_) rfl (by kernel_rfl) (fun _ _ _ h => h) (Or.inl ⟨by first | kernel_rfl | rfl, ?_⟩) (by assumption) ?_
   rotate_left
   focus intro w hSw; (try dsimp only at hSw); go_simp; try with_reducible rfl
   try (unfold Act.put; dsimp only)
   refine tk (i := 11) (v := ?_) rfl (by kernel_rfl) (fun _ _ _ h => h) (Or.inl ⟨by first | kernel_rfl | rfl, ?_⟩) (by assumption) ?_
   rotate_left
   focus intro w hSw; (try dsimp only at hSw); go_simp; try with_reducible rfl
   try (unfold Act.put; dsimp only)
   refine wpAnyN_ready (rs := [14]) (by kernel_rfl) (by simp) ?_
   refine AllReadyN.cons rfl (fun K hK => ?_) ?_
   ·go_simp
    go_at_call 84
    refine (HD3.out _).mono ?_
    rintro e w5 ⟨rfl, hb5⟩
    have hbw5 : Below W.heap.size W w5 := Below.trans (show Below W.heap.size W _ by first | exact Below.refl _ _ | exact (Below.refl _ _).drew | exact hbw5 | go_grown) (hb5.mono (by first | exact Nat.le_refl _ | exact hbw5.size | (simp; done)))
    dsimp only
    refine hK.out _ _ ?_ (fun hHeld => ?_)
    ·(try dsimp only)
     first
      | (refine ⟨?_, ?_, ?_, ?_⟩ <;> with_reducible assumption)
      | (refine ⟨cell_keep ?_ e2, cell_keep ?_ e3, cell_keep ?_ e4, cell_keep ?_ e5⟩ <;> (first | exact hbw5 | (go_grown; done)))
    clear hK K
    (try change wpAnyN _ _ _ _ _ _ _ _ (Act.put _ (some 44) _) _)
    try (unfold Act.put; dsimp only)
    refine tk (i := 15) (v := ?_) rfl (by kernel_rfl) (fun _ _ _ h => h) (Or.inl ⟨by first | kernel_rfl | rfl, ?_⟩) (by assumption) ?_
    rotate_left
    focus intro w hSw; (try dsimp only at hSw); go_simp; try with_reducible rfl
    try (unfold Act.put; dsimp only)
    refine tk (i := 16) (v := ?_) rfl (by kernel_rfl) (fun _ _ _ h => h) (Or.inl ⟨by first | kernel_rfl | rfl, ?_⟩) (by assumption) ?_
    rotate_left
    focus intro w hSw; (try dsimp only at hSw); go_simp; try with_reducible rfl
    try (unfold Act.put; dsimp only)
    refine wpAnyN_done (by kernel_rfl) ?_ _
    go_wp2
    go_ret
    rw [hg]
    exact ⟨by rw [← HT.out] <;> rfl, HBW.out.trans (hbw5.mono (Nat.le_of_lt hgw))⟩
   exact AllReadyN.nil
  exact AllReadyN.nil
 exact AllReadyN.nil
set_option maxRecDepth 100000 in
set_option maxHeartbeats 4000000 in
theorem told_3 (x t r m : Nat) (hx : x ≤ 99999999) (ht : t ≤ 250) (hr : r ≤ 250) (hm : m ≤ 4) (w : World) :
 Calls Tryz.prog 51 #[.agg #[.int .i64 3, .int .i64 0, .int .i64 x, .int .i64 t, .int .i64 r, .int .i64 m, .int .i64 0]] w fun e w' => e = .returned (.string (bsA (jnL 32 [evName 3, decL x, textL t r, modeL m]))) ∧ Below w.heap.size w w' := by
 have HD1 := Lib.hid (fun W => d23_any x W hx)
 have s1 : (decB x).size ≤ 8 := decB_size hx
 have HD2 := Lib.hid (fun W => text_any t r W (by omega) (by omega))
 have s2 : (textB t r).size ≤ 8 := textB_le ht hr
 have HD3 := Lib.hid (fun W => mode23_any m W hm)
 have s3 : (bsA (modeL m)).size ≤ 8 := modeL_le m
 have HT := Lib.hid (show (((((((⟨#[103, 114, 97, 110, 116, 101, 100]⟩ ++ ⟨#[32]⟩) ++ decB x) ++ ⟨#[32]⟩) ++ textB t r) ++ ⟨#[32]⟩) ++ bsA (modeL m)) : ByteArray) = bsA (jnL 32 [evName 3, decL x, textL t r, modeL m]) from by
  rw [show (⟨#[103, 114, 97, 110, 116, 101, 100]⟩ : ByteArray) = bsA (evName 3) from rfl, show (⟨#[32]⟩ : ByteArray) = bsA [32] from rfl]
  unfold decB; rw [show textB t r = bsA (textL t r) from rfl]
  simp only [bs_app, jnL]
  congr 1
  try simp)
 obtain ⟨d1, hd1⟩ : ∃ d, decB x = d := ⟨_, rfl⟩
 obtain ⟨d2, hd2⟩ : ∃ d, textB t r = d := ⟨_, rfl⟩
 obtain ⟨d3, hd3⟩ : ∃ d, bsA (modeL m) = d := ⟨_, rfl⟩
 rw [hd1] at HD1 s1
 rw [hd2] at HD2 s2
 rw [hd3] at HD3 s3
 rw [hd3, hd2, hd1] at HT
 clear hd1 hd2 hd3
 obtain ⟨X1, hX1, z1, y1⟩ := add_sp ⟨#[103, 114, 97, 110, 116, 101, 100]⟩ 7 (by decide) (by decide)
 rw [hX1] at HT
 obtain ⟨X2, hX2, z2, y2⟩ := add_ex X1 d1 8 8 z1 s1 (by decide)
 rw [hX2] at HT
 obtain ⟨X3, hX3, z3, y3⟩ := add_sp X2 16 z2 (by decide)
 rw [hX3] at HT
 obtain ⟨X4, hX4, z4, y4⟩ := add_ex X3 d2 17 8 z3 s2 (by decide)
 rw [hX4] at HT
 obtain ⟨X5, hX5, z5, y5⟩ := add_sp X4 25 z4 (by decide)
 rw [hX5] at HT
 obtain ⟨X6, hX6, z6, y6⟩ := add_ex X5 d3 26 8 z5 s3 (by decide)
 rw [hX6] at HT
 clear z1 z2 z3 z4 z5 z6 s1 s2 s3
 have HBW := Lib.hid (tell_below w 3 0 x t r m 0)
 obtain ⟨e1, e2, e3, e4, e5, e6⟩ := tell_cells w 3 0 x t r m 0
 have hgw := tell_size w 3 0 x t r m 0
 obtain ⟨W, hW⟩ : ∃ W, tellW w 3 0 x t r m 0 = W := ⟨_, rfl⟩
 rw [hW] at HBW e1 e2 e3 e4 e5 e6 hgw
 have HWW := Lib.hid hW
 clear hW
 go_enter Tryz.func51, Tryz.ntmps51
 go_wp2_with fail
 unfold tellW at HWW
 rw [HWW.out]
 obtain ⟨g, hg⟩ : ∃ g, w.heap.size = g := ⟨_, rfl⟩
 rw [hg] at e1 e2 e3 e4 e5 e6 hgw HBW ⊢
 clear HWW
 refine wp_region_N (S := (fun w' => w'.cell? ⟨g, 2, none⟩ = some (.int .i64 x) ∧ w'.cell? ⟨g, 3, none⟩ = some (.int .i64 t) ∧ w'.cell? ⟨g, 4, none⟩ = some (.int .i64 r) ∧ w'.cell? ⟨g, 5, none⟩ = some (.int .i64 m))) (fun i => true) (by kernel_rfl) ?_ (fun hHeld => ?_)
 ·(try dsimp only)
  first
   | (refine ⟨?_, ?_, ?_, ?_⟩ <;> with_reducible assumption)
   | (refine ⟨cell_keep ?_ e2, cell_keep ?_ e3, cell_keep ?_ e4, cell_keep ?_ e5⟩ <;> (first | exact hbw5 | (go_grown; done)))
 refine tk (i := 0) (v := ?_) rfl (by kernel_rfl) (fun _ _ _ h => h) (Or.inl ⟨by first | kernel_rfl | rfl, ?_⟩) (by assumption) ?_
 rotate_left
 focus intro w hSw; (try dsimp only at hSw); go_simp; try with_reducible rfl
 try (unfold Act.put; dsimp only)
 refine tk (i := 1) (v := ?_) rfl (by kernel_rfl) (fun _ _ _ h => h) (Or.inl ⟨by first | kernel_rfl | rfl, ?_⟩) (by assumption) ?_
 rotate_left
 focus intro w hSw; (try dsimp only at hSw); go_simp; try with_reducible rfl
 try (unfold Act.put; dsimp only)
 refine tk (i := 2) (v := ?_) rfl (by kernel_rfl) (fun _ _ _ h => h) (Or.inl ⟨by first | kernel_rfl | rfl, ?_⟩) (by assumption) ?_
 rotate_left
 focus intro w hSw; (try dsimp only at hSw); go_simp; try with_reducible rfl
 try (unfold Act.put; dsimp only)
 refine tk (i := 3) (v := ?_) rfl (by kernel_rfl) (fun _ _ _ h => h) (Or.inl ⟨by first | kernel_rfl | rfl, ?_⟩) (by assumption) ?_
 rotate_left
 focus intro w hSw; (try dsimp only at hSw); go_simp; try with_reducible rfl
 try (unfold Act.put; dsimp only)
 refine tk (i := 7) (v := ?_) rfl (by kernel_rfl) (fun _ _ _ h => h) (Or.inl ⟨by first | kernel_rfl | rfl, ?_⟩) (by assumption) ?_
 rotate_left
 focus intro w hSw; (try dsimp only at hSw); go_simp; try with_reducible rfl
 try (unfold Act.put; dsimp only)
 refine tk (i := 8) (v := ?_) rfl (by kernel_rfl) (fun _ _ _ h => h) (Or.inl ⟨by first | kernel_rfl | rfl, ?_⟩) (by assumption) ?_
 rotate_left
 focus intro w hSw; (try dsimp only at hSw); go_simp; try with_reducible rfl
 try (unfold Act.put; dsimp only)
 refine tk (i := 12) (v := ?_) rfl (by kernel_rfl) (fun _ _ _ h => h) (Or.inl ⟨by first | kernel_rfl | rfl, ?_⟩) (by assumption) ?_
 rotate_left
 focus intro w hSw; (try dsimp only at hSw); go_simp; try with_reducible rfl
 try (unfold Act.put; dsimp only)
 refine tk (i := 13) (v := ?_) rfl (by kernel_rfl) (fun _ _ _ h => h) (Or.inl ⟨by first | kernel_rfl | rfl, ?_⟩) (by assumption) ?_
 rotate_left
 focus intro w hSw; (try dsimp only at hSw); go_simp; try with_reducible rfl
 try (unfold Act.put; dsimp only)
 refine wpAnyN_ready (rs := [4]) (by kernel_rfl) (by simp) ?_
 refine AllReadyN.cons rfl (fun K hK => ?_) ?_
 ·go_simp
  go_at_call 83
  refine (HD1.out _).mono ?_
  rintro e w5 ⟨rfl, hb5⟩
  have hbw5 : Below W.heap.size W w5 := Below.trans (show Below W.heap.size W _ by first | exact Below.refl _ _ | exact (Below.refl _ _).drew | exact hbw5 | go_grown) (hb5.mono (by first | exact Nat.le_refl _ | exact hbw5.size | (simp; done)))
  dsimp only
  refine hK.out _ _ ?_ (fun hHeld => ?_)
  ·(try dsimp only)
   first
    | (refine ⟨?_, ?_, ?_, ?_⟩ <;> with_reducible assumption)
    | (refine ⟨cell_keep ?_ e2, cell_keep ?_ e3, cell_keep ?_ e4, cell_keep ?_ e5⟩ <;> (first | exact hbw5 | (go_grown; done)))
  clear hK K
  (try change wpAnyN _ _ _ _ _ _ _ _ (Act.put _ (some 34) _) _)
  try (unfold Act.put; dsimp only)
  refine tk (i := 5) (v := ?_) rfl (by kernel_rfl) (fun _ _ _ h => h) (Or.inl ⟨by first | kernel_rfl | rfl, ?_⟩) (by assumption) ?_
  rotate_left
  focus intro w hSw; (try dsimp only at hSw); go_simp; try with_reducible rfl
  try (unfold Act.put; dsimp only)
  refine tk (i := 6) (v := ?_) rfl (by kernel_rfl) (fun _ _ _ h => h) (Or.inl ⟨by first | kernel_rfl | rfl, ?_⟩) (by assumption) ?_
  rotate_left
  focus intro w hSw; (try dsimp only at hSw); go_simp; try with_reducible rfl
  try (unfold Act.put; dsimp only)
  refine wpAnyN_ready (rs := [9]) (by kernel_rfl) (by simp) ?_
  refine AllReadyN.cons rfl (fun K hK => ?_) ?_
  ·go_simp
   go_at_call 36
   refine (HD2.out _).mono ?_
   rintro e w5 ⟨rfl, hb5⟩
   have hbw5 : Below W.heap.size W w5 := Below.trans (show Below W.heap.size W _ by first | exact Below.refl _ _ | exact (Below.refl _ _).drew | exact hbw5 | go_grown) (hb5.mono (by first | exact Nat.le_refl _ | exact hbw5.size | (simp; done)))
   dsimp only
   refine hK.out _ _ ?_ (fun hHeld => ?_)
   ·(try dsimp only)
    first
     | (refine ⟨?_, ?_, ?_, ?_⟩ <;> with_reducible assumption)
     | (refine ⟨cell_keep ?_ e2, cell_keep ?_ e3, cell_keep ?_ e4, cell_keep ?_ e5⟩ <;> (first | exact hbw5 | (go_grown; done)))
   clear hK K
   (try change wpAnyN _ _ _ _ _ _ _ _ (Act.put _ (some 39) _) _)
   try (unfold Act.put; dsimp only)
   refine tk (i := 10) (v := ?_) rfl (by kernel_rfl) (fun _ _ _ h => h) (Or.inl ⟨by first | kernel_rfl | rfl, ?_⟩) (by assumption) ?_
   rotate_left
   focus intro w hSw; (try dsimp only at hSw); go_simp; try with_reducible rfl
   try (unfold Act.put; dsimp only)
   refine tk (i := 11) (v := ?_) rfl (by kernel_rfl) (fun _ _ _ h => h) (Or.inl ⟨by first | kernel_rfl | rfl, ?_⟩) (by assumption) ?_
   rotate_left
   focus intro w hSw; (try dsimp only at hSw); go_simp; try with_reducible rfl
   try (unfold Act.put; dsimp only)
   refine wpAnyN_ready (rs := [14]) (by kernel_rfl) (by simp) ?_
   refine AllReadyN.cons rfl (fun K hK => ?_) ?_
   ·go_simp
    go_at_call 84
    refine (HD3.out _).mono ?_
    rintro e w5 ⟨rfl, hb5⟩
    have hbw5 : Below W.heap.size W w5 := Below.trans (show Below W.heap.size W _ by first | exact Below.refl _ _ | exact (Below.refl _ _).drew | exact hbw5 | go_grown) (hb5.mono (by first | exact Nat.le_refl _ | exact hbw5.size | (simp; done)))
    dsimp only
    refine hK.out _ _ ?_ (fun hHeld => ?_)
    ·(try dsimp only)
     first
      | (refine ⟨?_, ?_, ?_, ?_⟩ <;> with_reducible assumption)
      | (refine ⟨cell_keep ?_ e2, cell_keep ?_ e3, cell_keep ?_ e4, cell_keep ?_ e5⟩ <;> (first | exact hbw5 | (go_grown; done)))
    clear hK K
    (try change wpAnyN _ _ _ _ _ _ _ _ (Act.put _ (some 44) _) _)
    try (unfold Act.put; dsimp only)
    refine tk (i := 15) (v := ?_) rfl (by kernel_rfl) (fun _ _ _ h => h) (Or.inl ⟨by first | kernel_rfl | rfl, ?_⟩) (by assumption) ?_
    rotate_left
    focus intro w hSw; (try dsimp only at hSw); go_simp; try with_reducible rfl
    try (unfold Act.put; dsimp only)
    refine tk (i := 16) (v := ?_) rfl (by kernel_rfl) (fun _ _ _ h => h) (Or.inl ⟨by first | kernel_rfl | rfl, ?_⟩) (by assumption) ?_
    rotate_left
    focus intro w hSw; (try dsimp only at hSw); go_simp; try with_reducible rfl
    try (unfold Act.put; dsimp only)
    refine wpAnyN_done (by kernel_rfl) ?_ _
    go_wp2
    go_ret
    rw [hg]
    exact ⟨by rw [← HT.out] <;> rfl, HBW.out.trans (hbw5.mono (Nat.le_of_lt hgw))⟩
   exact AllReadyN.nil
  exact AllReadyN.nil
 exact AllReadyN.nil
set_option maxRecDepth 100000 in
set_option maxHeartbeats 4000000 in
theorem told_4 (x t r q : Nat) (hx : x ≤ 99999999) (ht : t ≤ 250) (hr : r ≤ 250) (hq : q ≤ 99999999) (w : World) :
 Calls Tryz.prog 51 #[.agg #[.int .i64 4, .int .i64 0, .int .i64 x, .int .i64 t, .int .i64 r, .int .i64 0, .int .i64 q]] w fun e w' => e = .returned (.string (bsA (jnL 32 [evName 4, decL x, textL t r, decL q]))) ∧ Below w.heap.size w w' := by
 have HD1 := Lib.hid (fun W => d23_any x W hx)
 have s1 : (decB x).size ≤ 8 := decB_size hx
 have HD2 := Lib.hid (fun W => text_any t r W (by omega) (by omega))
 have s2 : (textB t r).size ≤ 8 := textB_le ht hr
 have HD3 := Lib.hid (fun W => d23_any q W hq)
 have s3 : (decB q).size ≤ 8 := decB_size hq
 have HT := Lib.hid (show (((((((⟨#[114, 101, 102, 117, 115, 101, 100]⟩ ++ ⟨#[32]⟩) ++ decB x) ++ ⟨#[32]⟩) ++ textB t r) ++ ⟨#[32]⟩) ++ decB q) : ByteArray) = bsA (jnL 32 [evName 4, decL x, textL t r, decL q]) from by
  rw [show (⟨#[114, 101, 102, 117, 115, 101, 100]⟩ : ByteArray) = bsA (evName 4) from rfl, show (⟨#[32]⟩ : ByteArray) = bsA [32] from rfl]
  unfold decB; rw [show textB t r = bsA (textL t r) from rfl]
  simp only [bs_app, jnL]
  congr 1
  try simp)
 obtain ⟨d1, hd1⟩ : ∃ d, decB x = d := ⟨_, rfl⟩
 obtain ⟨d2, hd2⟩ : ∃ d, textB t r = d := ⟨_, rfl⟩
 obtain ⟨d3, hd3⟩ : ∃ d, decB q = d := ⟨_, rfl⟩
 rw [hd1] at HD1 s1
 rw [hd2] at HD2 s2
 rw [hd3] at HD3 s3
 rw [hd3, hd2, hd1] at HT
 clear hd1 hd2 hd3
 obtain ⟨X1, hX1, z1, y1⟩ := add_sp ⟨#[114, 101, 102, 117, 115, 101, 100]⟩ 7 (by decide) (by decide)
 rw [hX1] at HT
 obtain ⟨X2, hX2, z2, y2⟩ := add_ex X1 d1 8 8 z1 s1 (by decide)
 rw [hX2] at HT
 obtain ⟨X3, hX3, z3, y3⟩ := add_sp X2 16 z2 (by decide)
 rw [hX3] at HT
 obtain ⟨X4, hX4, z4, y4⟩ := add_ex X3 d2 17 8 z3 s2 (by decide)
 rw [hX4] at HT
 obtain ⟨X5, hX5, z5, y5⟩ := add_sp X4 25 z4 (by decide)
 rw [hX5] at HT
 obtain ⟨X6, hX6, z6, y6⟩ := add_ex X5 d3 26 8 z5 s3 (by decide)
 rw [hX6] at HT
 clear z1 z2 z3 z4 z5 z6 s1 s2 s3
 have HBW := Lib.hid (tell_below w 4 0 x t r 0 q)
 obtain ⟨e1, e2, e3, e4, e5, e6⟩ := tell_cells w 4 0 x t r 0 q
 have hgw := tell_size w 4 0 x t r 0 q
 obtain ⟨W, hW⟩ : ∃ W, tellW w 4 0 x t r 0 q = W := ⟨_, rfl⟩
 rw [hW] at HBW e1 e2 e3 e4 e5 e6 hgw
 have HWW := Lib.hid hW
 clear hW
 go_enter Tryz.func51, Tryz.ntmps51
 go_wp2_with fail
 unfold tellW at HWW
 rw [HWW.out]
 obtain ⟨g, hg⟩ : ∃ g, w.heap.size = g := ⟨_, rfl⟩
 rw [hg] at e1 e2 e3 e4 e5 e6 hgw HBW ⊢
 clear HWW
 refine wp_region_N (S := (fun w' => w'.cell? ⟨g, 2, none⟩ = some (.int .i64 x) ∧ w'.cell? ⟨g, 3, none⟩ = some (.int .i64 t) ∧ w'.cell? ⟨g, 4, none⟩ = some (.int .i64 r) ∧ w'.cell? ⟨g, 6, none⟩ = some (.int .i64 q))) (fun i => true) (by kernel_rfl) ?_ (fun hHeld => ?_)
 ·(try dsimp only)
  first
   | (refine ⟨?_, ?_, ?_, ?_⟩ <;> with_reducible assumption)
   | (refine ⟨cell_keep ?_ e2, cell_keep ?_ e3, cell_keep ?_ e4, cell_keep ?_ e6⟩ <;> (first | exact hbw5 | (go_grown; done)))
 refine tk (i := 0) (v := ?_) rfl (by kernel_rfl) (fun _ _ _ h => h) (Or.inl ⟨by first | kernel_rfl | rfl, ?_⟩) (by assumption) ?_
 rotate_left
 focus intro w hSw; (try dsimp only at hSw); go_simp; try with_reducible rfl
 try (unfold Act.put; dsimp only)
 refine tk (i := 1) (v := ?_) rfl (by kernel_rfl) (fun _ _ _ h => h) (Or.inl ⟨by first | kernel_rfl | rfl, ?_⟩) (by assumption) ?_
 rotate_left
 focus intro w hSw; (try dsimp only at hSw); go_simp; try with_reducible rfl
 try (unfold Act.put; dsimp only)
 refine tk (i := 2) (v := ?_) rfl (by kernel_rfl) (fun _ _ _ h => h) (Or.inl ⟨by first | kernel_rfl | rfl, ?_⟩) (by assumption) ?_
 rotate_left
 focus intro w hSw; (try dsimp only at hSw); go_simp; try with_reducible rfl
 try (unfold Act.put; dsimp only)
 refine tk (i := 3) (v := ?_) rfl (by kernel_rfl) (fun _ _ _ h => h) (Or.inl ⟨by first | kernel_rfl | rfl, ?_⟩) (by assumption) ?_
 rotate_left
 focus intro w hSw; (try dsimp only at hSw); go_simp; try with_reducible rfl
 try (unfold Act.put; dsimp only)
 refine tk (i := 7) (v := ?_) rfl (by kernel_rfl) (fun _ _ _ h => h) (Or.inl ⟨by first | kernel_rfl | rfl, ?_⟩) (by assumption) ?_
 rotate_left
 focus intro w hSw; (try dsimp only at hSw); go_simp; try with_reducible rfl
 try (unfold Act.put; dsimp only)
 refine tk (i := 8) (v := ?_) rfl (by kernel_rfl) (fun _ _ _ h => h) (Or.inl ⟨by first | kernel_rfl | rfl, ?_⟩) (by assumption) ?_
 rotate_left
 focus intro w hSw; (try dsimp only at hSw); go_simp; try with_reducible rfl
 try (unfold Act.put; dsimp only)
 refine tk (i := 12) (v := ?_) rfl (by kernel_rfl) (fun _ _ _ h => h) (Or.inl ⟨by first | kernel_rfl | rfl, ?_⟩) (by assumption) ?_
 rotate_left
 focus intro w hSw; (try dsimp only at hSw); go_simp; try with_reducible rfl
 try (unfold Act.put; dsimp only)
 refine tk (i := 13) (v := ?_) rfl (by kernel_rfl) (fun _ _ _ h => h) (Or.inl ⟨by first | kernel_rfl | rfl, ?_⟩) (by assumption) ?_
 rotate_left
 focus intro w hSw; (try dsimp only at hSw); go_simp; try with_reducible rfl
 try (unfold Act.put; dsimp only)
 refine wpAnyN_ready (rs := [4]) (by kernel_rfl) (by simp) ?_
 refine AllReadyN.cons rfl (fun K hK => ?_) ?_
 ·go_simp
  go_at_call 83
  refine (HD1.out _).mono ?_
  rintro e w5 ⟨rfl, hb5⟩
  have hbw5 : Below W.heap.size W w5 := Below.trans (show Below W.heap.size W _ by first | exact Below.refl _ _ | exact (Below.refl _ _).drew | exact hbw5 | go_grown) (hb5.mono (by first | exact Nat.le_refl _ | exact hbw5.size | (simp; done)))
  dsimp only
  refine hK.out _ _ ?_ (fun hHeld => ?_)
  ·(try dsimp only)
   first
    | (refine ⟨?_, ?_, ?_, ?_⟩ <;> with_reducible assumption)
    | (refine ⟨cell_keep ?_ e2, cell_keep ?_ e3, cell_keep ?_ e4, cell_keep ?_ e6⟩ <;> (first | exact hbw5 | (go_grown; done)))
  clear hK K
  (try change wpAnyN _ _ _ _ _ _ _ _ (Act.put _ (some 52) _) _)
  try (unfold Act.put; dsimp only)
  refine tk (i := 5) (v := ?_) rfl (by kernel_rfl) (fun _ _ _ h => h) (Or.inl ⟨by first | kernel_rfl | rfl, ?_⟩) (by assumption) ?_
  rotate_left
  focus intro w hSw; (try dsimp only at hSw); go_simp; try with_reducible rfl
  try (unfold Act.put; dsimp only)
  refine tk (i := 6) (v := ?_) rfl (by kernel_rfl) (fun _ _ _ h => h) (Or.inl ⟨by first | kernel_rfl | rfl, ?_⟩) (by assumption) ?_
  rotate_left
  focus intro w hSw; (try dsimp only at hSw); go_simp; try with_reducible rfl
  try (unfold Act.put; dsimp only)
  refine wpAnyN_ready (rs := [9]) (by kernel_rfl) (by simp) ?_
  refine AllReadyN.cons rfl (fun K hK => ?_) ?_
  ·go_simp
   go_at_call 36
   refine (HD2.out _).mono ?_
   rintro e w5 ⟨rfl, hb5⟩
   have hbw5 : Below W.heap.size W w5 := Below.trans (show Below W.heap.size W _ by first | exact Below.refl _ _ | exact (Below.refl _ _).drew | exact hbw5 | go_grown) (hb5.mono (by first | exact Nat.le_refl _ | exact hbw5.size | (simp; done)))
   dsimp only
   refine hK.out _ _ ?_ (fun hHeld => ?_)
   ·(try dsimp only)
    first
     | (refine ⟨?_, ?_, ?_, ?_⟩ <;> with_reducible assumption)
     | (refine ⟨cell_keep ?_ e2, cell_keep ?_ e3, cell_keep ?_ e4, cell_keep ?_ e6⟩ <;> (first | exact hbw5 | (go_grown; done)))
   clear hK K
   (try change wpAnyN _ _ _ _ _ _ _ _ (Act.put _ (some 57) _) _)
   try (unfold Act.put; dsimp only)
   refine tk (i := 10) (v := ?_) rfl (by kernel_rfl) (fun _ _ _ h => h) (Or.inl ⟨by first | kernel_rfl | rfl, ?_⟩) (by assumption) ?_
   rotate_left
   focus intro w hSw; (try dsimp only at hSw); go_simp; try with_reducible rfl
   try (unfold Act.put; dsimp only)
   refine tk (i := 11) (v := ?_) rfl (by kernel_rfl) (fun _ _ _ h => h) (Or.inl ⟨by first | kernel_rfl | rfl, ?_⟩) (by assumption) ?_
   rotate_left
   focus intro w hSw; (try dsimp only at hSw); go_simp; try with_reducible rfl
   try (unfold Act.put; dsimp only)
   refine wpAnyN_ready (rs := [14]) (by kernel_rfl) (by simp) ?_
   refine AllReadyN.cons rfl (fun K hK => ?_) ?_
   ·go_simp
    go_at_call 83
    refine (HD3.out _).mono ?_
    rintro e w5 ⟨rfl, hb5⟩
    have hbw5 : Below W.heap.size W w5 := Below.trans (show Below W.heap.size W _ by first | exact Below.refl _ _ | exact (Below.refl _ _).drew | exact hbw5 | go_grown) (hb5.mono (by first | exact Nat.le_refl _ | exact hbw5.size | (simp; done)))
    dsimp only
    refine hK.out _ _ ?_ (fun hHeld => ?_)
    ·(try dsimp only)
     first
      | (refine ⟨?_, ?_, ?_, ?_⟩ <;> with_reducible assumption)
      | (refine ⟨cell_keep ?_ e2, cell_keep ?_ e3, cell_keep ?_ e4, cell_keep ?_ e6⟩ <;> (first | exact hbw5 | (go_grown; done)))
    clear hK K
    (try change wpAnyN _ _ _ _ _ _ _ _ (Act.put _ (some 62) _) _)
    try (unfold Act.put; dsimp only)
    refine tk (i := 15) (v := ?_) rfl (by kernel_rfl) (fun _ _ _ h => h) (Or.inl ⟨by first | kernel_rfl | rfl, ?_⟩) (by assumption) ?_
    rotate_left
    focus intro w hSw; (try dsimp only at hSw); go_simp; try with_reducible rfl
    try (unfold Act.put; dsimp only)
    refine tk (i := 16) (v := ?_) rfl (by kernel_rfl) (fun _ _ _ h => h) (Or.inl ⟨by first | kernel_rfl | rfl, ?_⟩) (by assumption) ?_
    rotate_left
    focus intro w hSw; (try dsimp only at hSw); go_simp; try with_reducible rfl
    try (unfold Act.put; dsimp only)
    refine wpAnyN_done (by kernel_rfl) ?_ _
    go_wp2
    go_ret
    rw [hg]
    exact ⟨by rw [← HT.out] <;> rfl, HBW.out.trans (hbw5.mono (Nat.le_of_lt hgw))⟩
   exact AllReadyN.nil
  exact AllReadyN.nil
 exact AllReadyN.nil
set_option maxRecDepth 100000 in
set_option maxHeartbeats 4000000 in
theorem told_5 (x : Nat) (hx : x ≤ 99999999) (w : World) :
 Calls Tryz.prog 51 #[.agg #[.int .i64 5, .int .i64 0, .int .i64 x, .int .i64 0, .int .i64 0, .int .i64 0, .int .i64 0]] w fun e w' => e = .returned (.string (bsA (jnL 32 [evName 5, decL x]))) ∧ Below w.heap.size w w' := by
 have HD1 := Lib.hid (fun W => d23_any x W hx)
 have s1 : (decB x).size ≤ 8 := decB_size hx
 have HT := Lib.hid (show (((⟨#[102, 105, 110, 105, 115, 104]⟩ ++ ⟨#[32]⟩) ++ decB x) : ByteArray) = bsA (jnL 32 [evName 5, decL x]) from by
  rw [show (⟨#[102, 105, 110, 105, 115, 104]⟩ : ByteArray) = bsA (evName 5) from rfl, show (⟨#[32]⟩ : ByteArray) = bsA [32] from rfl]
  unfold decB
  simp only [bs_app, jnL]
  congr 1
  try simp)
 obtain ⟨d1, hd1⟩ : ∃ d, decB x = d := ⟨_, rfl⟩
 rw [hd1] at HD1 s1
 rw [hd1] at HT
 clear hd1
 obtain ⟨X1, hX1, z1, y1⟩ := add_sp ⟨#[102, 105, 110, 105, 115, 104]⟩ 6 (by decide) (by decide)
 rw [hX1] at HT
 obtain ⟨X2, hX2, z2, y2⟩ := add_ex X1 d1 7 8 z1 s1 (by decide)
 rw [hX2] at HT
 clear z1 z2 s1
 have HBW := Lib.hid (tell_below w 5 0 x 0 0 0 0)
 obtain ⟨e1, e2, e3, e4, e5, e6⟩ := tell_cells w 5 0 x 0 0 0 0
 have hgw := tell_size w 5 0 x 0 0 0 0
 obtain ⟨W, hW⟩ : ∃ W, tellW w 5 0 x 0 0 0 0 = W := ⟨_, rfl⟩
 rw [hW] at HBW e1 e2 e3 e4 e5 e6 hgw
 have HWW := Lib.hid hW
 clear hW
 go_enter Tryz.func51, Tryz.ntmps51
 go_wp2_with fail
 unfold tellW at HWW
 rw [HWW.out]
 obtain ⟨g, hg⟩ : ∃ g, w.heap.size = g := ⟨_, rfl⟩
 rw [hg] at e1 e2 e3 e4 e5 e6 hgw HBW ⊢
 clear HWW
 refine (HD1.out _).mono ?_
 rintro e w5 ⟨rfl, hb5⟩
 go_wp2
 go_ret
 rw [hg]
 exact ⟨by rw [← HT.out] <;> rfl, HBW.out.trans (hb5.mono (Nat.le_of_lt hgw))⟩
set_option maxRecDepth 100000 in
set_option maxHeartbeats 4000000 in
theorem told_6 (x : Nat) (hx : x ≤ 99999999) (w : World) :
 Calls Tryz.prog 51 #[.agg #[.int .i64 6, .int .i64 0, .int .i64 x, .int .i64 0, .int .i64 0, .int .i64 0, .int .i64 0]] w fun e w' => e = .returned (.string (bsA (jnL 32 [evName 6, decL x]))) ∧ Below w.heap.size w w' := by
 have HD1 := Lib.hid (fun W => d23_any x W hx)
 have s1 : (decB x).size ≤ 8 := decB_size hx
 have HT := Lib.hid (show (((⟨#[99, 111, 109, 109, 105, 116, 116, 101, 100]⟩ ++ ⟨#[32]⟩) ++ decB x) : ByteArray) = bsA (jnL 32 [evName 6, decL x]) from by
  rw [show (⟨#[99, 111, 109, 109, 105, 116, 116, 101, 100]⟩ : ByteArray) = bsA (evName 6) from rfl, show (⟨#[32]⟩ : ByteArray) = bsA [32] from rfl]
  unfold decB
  simp only [bs_app, jnL]
  congr 1
  try simp)
 obtain ⟨d1, hd1⟩ : ∃ d, decB x = d := ⟨_, rfl⟩
 rw [hd1] at HD1 s1
 rw [hd1] at HT
 clear hd1
 obtain ⟨X1, hX1, z1, y1⟩ := add_sp ⟨#[99, 111, 109, 109, 105, 116, 116, 101, 100]⟩ 9 (by decide) (by decide)
 rw [hX1] at HT
 obtain ⟨X2, hX2, z2, y2⟩ := add_ex X1 d1 10 8 z1 s1 (by decide)
 rw [hX2] at HT
 clear z1 z2 s1
 have HBW := Lib.hid (tell_below w 6 0 x 0 0 0 0)
 obtain ⟨e1, e2, e3, e4, e5, e6⟩ := tell_cells w 6 0 x 0 0 0 0
 have hgw := tell_size w 6 0 x 0 0 0 0
 obtain ⟨W, hW⟩ : ∃ W, tellW w 6 0 x 0 0 0 0 = W := ⟨_, rfl⟩
 rw [hW] at HBW e1 e2 e3 e4 e5 e6 hgw
 have HWW := Lib.hid hW
 clear hW
 go_enter Tryz.func51, Tryz.ntmps51
 go_wp2_with fail
 unfold tellW at HWW
 rw [HWW.out]
 obtain ⟨g, hg⟩ : ∃ g, w.heap.size = g := ⟨_, rfl⟩
 rw [hg] at e1 e2 e3 e4 e5 e6 hgw HBW ⊢
 clear HWW
 refine (HD1.out _).mono ?_
 rintro e w5 ⟨rfl, hb5⟩
 go_wp2
 go_ret
 rw [hg]
 exact ⟨by rw [← HT.out] <;> rfl, HBW.out.trans (hb5.mono (Nat.le_of_lt hgw))⟩
set_option maxRecDepth 100000 in
set_option maxHeartbeats 4000000 in
theorem told_7 (x q : Nat) (hx : x ≤ 99999999) (hq : q ≤ 99999999) (w : World) :
 Calls Tryz.prog 51 #[.agg #[.int .i64 7, .int .i64 0, .int .i64 x, .int .i64 0, .int .i64 0, .int .i64 0, .int .i64 q]] w fun e w' => e = .returned (.string (bsA (jnL 32 [evName 7, decL x, decL q]))) ∧ Below w.heap.size w w' := by
 have HD1 := Lib.hid (fun W => d23_any x W hx)
 have s1 : (decB x).size ≤ 8 := decB_size hx
 have HD2 := Lib.hid (fun W => d23_any q W hq)
 have s2 : (decB q).size ≤ 8 := decB_size hq
 have HT := Lib.hid (show (((((⟨#[97, 98, 111, 114, 116, 101, 100]⟩ ++ ⟨#[32]⟩) ++ decB x) ++ ⟨#[32]⟩) ++ decB q) : ByteArray) = bsA (jnL 32 [evName 7, decL x, decL q]) from by
  rw [show (⟨#[97, 98, 111, 114, 116, 101, 100]⟩ : ByteArray) = bsA (evName 7) from rfl, show (⟨#[32]⟩ : ByteArray) = bsA [32] from rfl]
  unfold decB
  simp only [bs_app, jnL]
  congr 1
  try simp)
 obtain ⟨d1, hd1⟩ : ∃ d, decB x = d := ⟨_, rfl⟩
 obtain ⟨d2, hd2⟩ : ∃ d, decB q = d := ⟨_, rfl⟩
 rw [hd1] at HD1 s1
 rw [hd2] at HD2 s2
 rw [hd2, hd1] at HT
 clear hd1 hd2
 obtain ⟨X1, hX1, z1, y1⟩ := add_sp ⟨#[97, 98, 111, 114, 116, 101, 100]⟩ 7 (by decide) (by decide)
 rw [hX1] at HT
 obtain ⟨X2, hX2, z2, y2⟩ := add_ex X1 d1 8 8 z1 s1 (by decide)
 rw [hX2] at HT
 obtain ⟨X3, hX3, z3, y3⟩ := add_sp X2 16 z2 (by decide)
 rw [hX3] at HT
 obtain ⟨X4, hX4, z4, y4⟩ := add_ex X3 d2 17 8 z3 s2 (by decide)
 rw [hX4] at HT
 clear z1 z2 z3 z4 s1 s2
 have HBW := Lib.hid (tell_below w 7 0 x 0 0 0 q)
 obtain ⟨e1, e2, e3, e4, e5, e6⟩ := tell_cells w 7 0 x 0 0 0 q
 have hgw := tell_size w 7 0 x 0 0 0 q
 obtain ⟨W, hW⟩ : ∃ W, tellW w 7 0 x 0 0 0 q = W := ⟨_, rfl⟩
 rw [hW] at HBW e1 e2 e3 e4 e5 e6 hgw
 have HWW := Lib.hid hW
 clear hW
 go_enter Tryz.func51, Tryz.ntmps51
 go_wp2_with fail
 unfold tellW at HWW
 rw [HWW.out]
 obtain ⟨g, hg⟩ : ∃ g, w.heap.size = g := ⟨_, rfl⟩
 rw [hg] at e1 e2 e3 e4 e5 e6 hgw HBW ⊢
 clear HWW
 refine wp_region_N (S := (fun w' => w'.cell? ⟨g, 2, none⟩ = some (.int .i64 x) ∧ w'.cell? ⟨g, 6, none⟩ = some (.int .i64 q))) (fun i => true) (by kernel_rfl) ?_ (fun hHeld => ?_)
 ·(try dsimp only)
  first
   | (refine ⟨?_, ?_⟩ <;> with_reducible assumption)
   | (refine ⟨cell_keep ?_ e2, cell_keep ?_ e6⟩ <;> (first | exact hbw5 | (go_grown; done)))
 refine tk (i := 0) (v := ?_) rfl (by kernel_rfl) (fun _ _ _ h => h) (Or.inl ⟨by first | kernel_rfl | rfl, ?_⟩) (by assumption) ?_
 rotate_left
 focus intro w hSw; (try dsimp only at hSw); go_simp; try with_reducible rfl
 try (unfold Act.put; dsimp only)
 refine tk (i := 1) (v := ?_) rfl (by kernel_rfl) (fun _ _ _ h => h) (Or.inl ⟨by first | kernel_rfl | rfl, ?_⟩) (by assumption) ?_
 rotate_left
 focus intro w hSw; (try dsimp only at hSw); go_simp; try with_reducible rfl
 try (unfold Act.put; dsimp only)
 refine tk (i := 2) (v := ?_) rfl (by kernel_rfl) (fun _ _ _ h => h) (Or.inl ⟨by first | kernel_rfl | rfl, ?_⟩) (by assumption) ?_
 rotate_left
 focus intro w hSw; (try dsimp only at hSw); go_simp; try with_reducible rfl
 try (unfold Act.put; dsimp only)
 refine tk (i := 3) (v := ?_) rfl (by kernel_rfl) (fun _ _ _ h => h) (Or.inl ⟨by first | kernel_rfl | rfl, ?_⟩) (by assumption) ?_
 rotate_left
 focus intro w hSw; (try dsimp only at hSw); go_simp; try with_reducible rfl
 try (unfold Act.put; dsimp only)
 refine tk (i := 7) (v := ?_) rfl (by kernel_rfl) (fun _ _ _ h => h) (Or.inl ⟨by first | kernel_rfl | rfl, ?_⟩) (by assumption) ?_
 rotate_left
 focus intro w hSw; (try dsimp only at hSw); go_simp; try with_reducible rfl
 try (unfold Act.put; dsimp only)
 refine tk (i := 8) (v := ?_) rfl (by kernel_rfl) (fun _ _ _ h => h) (Or.inl ⟨by first | kernel_rfl | rfl, ?_⟩) (by assumption) ?_
 rotate_left
 focus intro w hSw; (try dsimp only at hSw); go_simp; try with_reducible rfl
 try (unfold Act.put; dsimp only)
 refine wpAnyN_ready (rs := [4]) (by kernel_rfl) (by simp) ?_
 refine AllReadyN.cons rfl (fun K hK => ?_) ?_
 ·go_simp
  go_at_call 83
  refine (HD1.out _).mono ?_
  rintro e w5 ⟨rfl, hb5⟩
  have hbw5 : Below W.heap.size W w5 := Below.trans (show Below W.heap.size W _ by first | exact Below.refl _ _ | exact (Below.refl _ _).drew | exact hbw5 | go_grown) (hb5.mono (by first | exact Nat.le_refl _ | exact hbw5.size | (simp; done)))
  dsimp only
  refine hK.out _ _ ?_ (fun hHeld => ?_)
  ·(try dsimp only)
   first
    | (refine ⟨?_, ?_⟩ <;> with_reducible assumption)
    | (refine ⟨cell_keep ?_ e2, cell_keep ?_ e6⟩ <;> (first | exact hbw5 | (go_grown; done)))
  clear hK K
  (try change wpAnyN _ _ _ _ _ _ _ _ (Act.put _ (some 79) _) _)
  try (unfold Act.put; dsimp only)
  refine tk (i := 5) (v := ?_) rfl (by kernel_rfl) (fun _ _ _ h => h) (Or.inl ⟨by first | kernel_rfl | rfl, ?_⟩) (by assumption) ?_
  rotate_left
  focus intro w hSw; (try dsimp only at hSw); go_simp; try with_reducible rfl
  try (unfold Act.put; dsimp only)
  refine tk (i := 6) (v := ?_) rfl (by kernel_rfl) (fun _ _ _ h => h) (Or.inl ⟨by first | kernel_rfl | rfl, ?_⟩) (by assumption) ?_
  rotate_left
  focus intro w hSw; (try dsimp only at hSw); go_simp; try with_reducible rfl
  try (unfold Act.put; dsimp only)
  refine wpAnyN_ready (rs := [9]) (by kernel_rfl) (by simp) ?_
  refine AllReadyN.cons rfl (fun K hK => ?_) ?_
  ·go_simp
   go_at_call 83
   refine (HD2.out _).mono ?_
   rintro e w5 ⟨rfl, hb5⟩
   have hbw5 : Below W.heap.size W w5 := Below.trans (show Below W.heap.size W _ by first | exact Below.refl _ _ | exact (Below.refl _ _).drew | exact hbw5 | go_grown) (hb5.mono (by first | exact Nat.le_refl _ | exact hbw5.size | (simp; done)))
   dsimp only
   refine hK.out _ _ ?_ (fun hHeld => ?_)
   ·(try dsimp only)
    first
     | (refine ⟨?_, ?_⟩ <;> with_reducible assumption)
     | (refine ⟨cell_keep ?_ e2, cell_keep ?_ e6⟩ <;> (first | exact hbw5 | (go_grown; done)))
   clear hK K
   (try change wpAnyN _ _ _ _ _ _ _ _ (Act.put _ (some 84) _) _)
   try (unfold Act.put; dsimp only)
   refine tk (i := 10) (v := ?_) rfl (by kernel_rfl) (fun _ _ _ h => h) (Or.inl ⟨by first | kernel_rfl | rfl, ?_⟩) (by assumption) ?_
   rotate_left
   focus intro w hSw; (try dsimp only at hSw); go_simp; try with_reducible rfl
   try (unfold Act.put; dsimp only)
   refine tk (i := 11) (v := ?_) rfl (by kernel_rfl) (fun _ _ _ h => h) (Or.inl ⟨by first | kernel_rfl | rfl, ?_⟩) (by assumption) ?_
   rotate_left
   focus intro w hSw; (try dsimp only at hSw); go_simp; try with_reducible rfl
   try (unfold Act.put; dsimp only)
   refine wpAnyN_done (by kernel_rfl) ?_ _
   go_wp2
   go_ret
   rw [hg]
   exact ⟨by rw [← HT.out] <;> rfl, HBW.out.trans (hbw5.mono (Nat.le_of_lt hgw))⟩
  exact AllReadyN.nil
 exact AllReadyN.nil
set_option maxRecDepth 100000 in
set_option maxHeartbeats 4000000 in
theorem told_8 (c : Nat) (hc : c ≤ 99999999) (w : World) :
 Calls Tryz.prog 51 #[.agg #[.int .i64 8, .int .i64 c, .int .i64 0, .int .i64 0, .int .i64 0, .int .i64 0, .int .i64 0]] w fun e w' => e = .returned (.string (bsA (jnL 32 [evName 8, decL c]))) ∧ Below w.heap.size w w' := by
 have HD1 := Lib.hid (fun W => d23_any c W hc)
 have s1 : (decB c).size ≤ 8 := decB_size hc
 have HT := Lib.hid (show (((⟨#[99, 114, 97, 115, 104, 101, 100]⟩ ++ ⟨#[32]⟩) ++ decB c) : ByteArray) = bsA (jnL 32 [evName 8, decL c]) from by
  rw [show (⟨#[99, 114, 97, 115, 104, 101, 100]⟩ : ByteArray) = bsA (evName 8) from rfl, show (⟨#[32]⟩ : ByteArray) = bsA [32] from rfl]
  unfold decB
  simp only [bs_app, jnL]
  congr 1
  try simp)
 obtain ⟨d1, hd1⟩ : ∃ d, decB c = d := ⟨_, rfl⟩
 rw [hd1] at HD1 s1
 rw [hd1] at HT
 clear hd1
 obtain ⟨X1, hX1, z1, y1⟩ := add_sp ⟨#[99, 114, 97, 115, 104, 101, 100]⟩ 7 (by decide) (by decide)
 rw [hX1] at HT
 obtain ⟨X2, hX2, z2, y2⟩ := add_ex X1 d1 8 8 z1 s1 (by decide)
 rw [hX2] at HT
 clear z1 z2 s1
 have HBW := Lib.hid (tell_below w 8 c 0 0 0 0 0)
 obtain ⟨e1, e2, e3, e4, e5, e6⟩ := tell_cells w 8 c 0 0 0 0 0
 have hgw := tell_size w 8 c 0 0 0 0 0
 obtain ⟨W, hW⟩ : ∃ W, tellW w 8 c 0 0 0 0 0 = W := ⟨_, rfl⟩
 rw [hW] at HBW e1 e2 e3 e4 e5 e6 hgw
 have HWW := Lib.hid hW
 clear hW
 go_enter Tryz.func51, Tryz.ntmps51
 go_wp2_with fail
 unfold tellW at HWW
 rw [HWW.out]
 obtain ⟨g, hg⟩ : ∃ g, w.heap.size = g := ⟨_, rfl⟩
 rw [hg] at e1 e2 e3 e4 e5 e6 hgw HBW ⊢
 clear HWW
 refine (HD1.out _).mono ?_
 rintro e w5 ⟨rfl, hb5⟩
 go_wp2
 go_ret
 rw [hg]
 exact ⟨by rw [← HT.out] <;> rfl, HBW.out.trans (hb5.mono (Nat.le_of_lt hgw))⟩
end Go.Proofs.YtjpjlfjaapfnkaaGreatDoor
namespace Go.Proofs.YtjpjlfjaapfnkaaGreatDoor
open Go.ChangeShapes Go.WideShapes Go.ChangeAt Go.RowKit
open C20 (Ev formB evC)
theorem told_any (e : Ev) (h : evOk e = true) (w : World) :
 Calls Tryz.prog 51 #[.agg (evC e)] w fun r w' => r = .returned (.string (bsA (evT e))) ∧ Below w.heap.size w w' := by
 unfold evOk at h
 rw [Bool.and_eq_true, decide_eq_true_eq] at h
 obtain ⟨hf, hx⟩ := h
 unfold evT
 rcases form_cases hf with ⟨q, a, b, c⟩ | ⟨hk, q, a, b, c, d⟩ | ⟨q, a, b, c, d⟩ | ⟨hk, q, a⟩ | ⟨q, a, b, c⟩ | ⟨q, b, c⟩
 ·rw [q]
  generalize e.tx = x at *
  generalize e.client = cl at *
  obtain ⟨n, rfl⟩ := Int.eq_ofNat_of_zero_le (show 0 ≤ x by omega)
  obtain ⟨m, rfl⟩ := Int.eq_ofNat_of_zero_le (show 0 ≤ cl by omega)
  exact told_1 n m (by omega) (by omega) w
 ·rw [q]
  generalize e.tx = x at *
  generalize e.table = t at *
  generalize e.row = r at *
  generalize e.mode = m at *
  generalize e.kind = k at *
  obtain ⟨n, rfl⟩ := Int.eq_ofNat_of_zero_le (show 0 ≤ x by omega)
  obtain ⟨t, rfl⟩ := Int.eq_ofNat_of_zero_le (show 0 ≤ t by omega)
  obtain ⟨r, rfl⟩ := Int.eq_ofNat_of_zero_le (show 0 ≤ r by omega)
  obtain ⟨m, rfl⟩ := Int.eq_ofNat_of_zero_le (show 0 ≤ m by omega)
  rcases hk with rfl | rfl
  ·exact told_2 n t r m (by omega) (by omega) (by omega) (by omega) w
  ·exact told_3 n t r m (by omega) (by omega) (by omega) (by omega) w
 ·rw [q]
  generalize e.tx = x at *
  generalize e.table = t at *
  generalize e.row = r at *
  generalize e.code = y at *
  obtain ⟨n, rfl⟩ := Int.eq_ofNat_of_zero_le (show 0 ≤ x by omega)
  obtain ⟨t, rfl⟩ := Int.eq_ofNat_of_zero_le (show 0 ≤ t by omega)
  obtain ⟨r, rfl⟩ := Int.eq_ofNat_of_zero_le (show 0 ≤ r by omega)
  obtain ⟨y, rfl⟩ := Int.eq_ofNat_of_zero_le (show 0 ≤ y by omega)
  exact told_4 n t r y (by omega) (by omega) (by omega) (by omega) w
 ·rw [q]
  generalize e.tx = x at *
  generalize e.kind = k at *
  obtain ⟨n, rfl⟩ := Int.eq_ofNat_of_zero_le (show 0 ≤ x by omega)
  rcases hk with rfl | rfl
  ·exact told_5 n (by omega) w
  ·exact told_6 n (by omega) w
 ·rw [q]
  generalize e.tx = x at *
  generalize e.code = y at *
  obtain ⟨n, rfl⟩ := Int.eq_ofNat_of_zero_le (show 0 ≤ x by omega)
  obtain ⟨y, rfl⟩ := Int.eq_ofNat_of_zero_le (show 0 ≤ y by omega)
  exact told_7 n y (by omega) (by omega) w
 ·rw [q]
  generalize e.client = cl at *
  obtain ⟨n, rfl⟩ := Int.eq_ofNat_of_zero_le (show 0 ≤ cl by omega)
  exact told_8 n (by omega) w
set_option maxHeartbeats 1000000 in
theorem revent_any (e : Ev) (w : World) :
 Calls Tryz.prog 17 #[.agg (evC e)] w fun r w' => r = .returned (.tuple #[.string (bsA (evS e)), .int .i64 (evE e)]) ∧ Below w.heap.size w w' := by
 have HF := Lib.hid (fun W => C20.rform_any e W)
 have HT := Lib.hid (fun (h : evOk e = true) W => told_any e h W)
 by_cases hf : formB e = true
 ·by_cases hx : 99999999 < e.tx
  ·have HS := Lib.hid (show evS e = [] from by unfold evS; rw [if_neg (by unfold evOk; rw [hf]; simp; omega)])
   have HE := Lib.hid (show evE e = 2 from by unfold evE; rw [if_pos hf, if_pos hx])
   rw [hf] at HF
   clear HT hf
   obtain ⟨k, c, x, t, r, m, q⟩ := e
   simp only at hx
   unfold evC at HF ⊢
   simp only at HF ⊢
   go_enter Tryz.func17, Tryz.ntmps17
   go_wp2_with (go_at_call 50; refine (HF.out _).mono ?_; rintro e w5 ⟨rfl, hb5⟩; have e2 := cell_keep hb5 (b := w.heap.size) (o := 2) (u := .int .i64 x) (by simp))
   go_ret2
   exact ⟨by rw [HS.out, HE.out]; rfl, ((Below.refl _ _).alloc (Nat.le_refl _) _).trans (hb5.mono (by simp))⟩
  ·have hok : evOk e = true := by unfold evOk; rw [hf]; simpa using hx
   have HS := Lib.hid (show evS e = evT e from if_pos hok)
   have HE := Lib.hid (evE_ok hok)
   have HT2 := Lib.hid (fun W => HT.out hok W)
   rw [hf] at HF
   rw [HS.out]
   generalize evT e = T at HT2 HS ⊢
   clear HT hf hok
   obtain ⟨k, c, x, t, r, m, q⟩ := e
   simp only at hx
   unfold evC at HF HT2 ⊢
   simp only at HF HT2 ⊢
   go_enter Tryz.func17, Tryz.ntmps17
   go_wp2_with (go_at_call 50; refine (HF.out _).mono ?_; rintro e w5 ⟨rfl, hb5⟩; have hb0 : Below w.heap.size w w5 := ((Below.refl _ _).alloc (Nat.le_refl _) _).trans (hb5.mono (by simp)); have e0 := cell_keep hb5 (b := w.heap.size) (o := 0) (u := .int .i64 k) (by simp); have e1 := cell_keep hb5 (b := w.heap.size) (o := 1) (u := .int .i64 c) (by simp); have e2 := cell_keep hb5 (b := w.heap.size) (o := 2) (u := .int .i64 x) (by simp); have e3 := cell_keep hb5 (b := w.heap.size) (o := 3) (u := .int .i64 t) (by simp); have e4 := cell_keep hb5 (b := w.heap.size) (o := 4) (u := .int .i64 r) (by simp); have e5 := cell_keep hb5 (b := w.heap.size) (o := 5) (u := .int .i64 m) (by simp); have e6 := cell_keep hb5 (b := w.heap.size) (o := 6) (u := .int .i64 q) (by simp))
   refine (HT2.out _).mono ?_
   rintro e w6 ⟨rfl, hb6⟩
   go_wp2
   go_ret2
   exact ⟨by rw [HE.out]; rfl, hb0.trans (hb6.mono hb0.size)⟩
 ·have HS := Lib.hid (show evS e = [] from by unfold evS; rw [if_neg (by unfold evOk; simp [hf])])
  have HE := Lib.hid (show evE e = 5 from by unfold evE; rw [if_neg hf])
  have hff : formB e = false := by simpa using hf
  rw [hff] at HF
  clear HT hf hff
  obtain ⟨k, c, x, t, r, m, q⟩ := e
  unfold evC at HF ⊢
  simp only at HF ⊢
  go_enter Tryz.func17, Tryz.ntmps17
  go_wp2_with (go_at_call 50; refine (HF.out _).mono ?_; rintro e w5 ⟨rfl, hb5⟩)
  go_ret2
  exact ⟨by rw [HS.out, HE.out]; rfl, ((Below.refl _ _).alloc (Nat.le_refl _) _).trans (hb5.mono (by simp))⟩
end Go.Proofs.YtjpjlfjaapfnkaaGreatDoor

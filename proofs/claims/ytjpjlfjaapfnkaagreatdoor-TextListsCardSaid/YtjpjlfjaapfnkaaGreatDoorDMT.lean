/-
  Entries as bytes: the document's. No conditions beyond those that each theorem states.
-/
import Derived.Test.YtjpjlfjaapfnkaaGreatDoorDMS
import Derived.Test.YtjpjlfjaapfnkaaGreatDoorDMA
import Derived.Test.YtjpjlfjaapfnkaaGreatDoorDMB
import Derived.Deep.QuietTactic
import Derived.BigQuiet
set_option linter.unusedVariables false
set_option linter.unusedSimpArgs false
namespace Go.Proofs.YtjpjlfjaapfnkaaGreatDoor
open Go.ChangeShapes Go.WideShapes Go.ChangeAt Go.RowKit
set_option maxRecDepth 100000 in
set_option maxHeartbeats 4000000 in
theorem bytes_out (k c t r m p : Int) (w : World) (h : (⟨k, c, t, r, m, p⟩ : Ent).inR = false) :
 Calls Tryz.prog 33 #[.agg #[.int .i64 k, .int .i64 c, .int .i64 t, .int .i64 r, .int .i64 m, .int .i64 p]] w fun e w' => e = .returned (.tuple #[.slice none 0 0, .bool false]) ∧ Below w.heap.size w w' := by
 have hbA : Below w.heap.size w (w.alloc (.cells #[.int .i64 k, .int .i64 c, .int .i64 t, .int .i64 r, .int .i64 m, .int .i64 p] 25)) := (Below.refl _ _).alloc (Nat.le_refl _) _
 have hn : ¬ ((0 ≤ k ∧ k ≤ 9) ∧ (0 ≤ c ∧ c ≤ 255) ∧ (0 ≤ t ∧ t ≤ 255) ∧ (0 ≤ r ∧ r ≤ 255) ∧ (0 ≤ m ∧ m ≤ 255) ∧ 0 ≤ p ∧ p ≤ 16777215) := fun h' => by
  have := inR_iff (e := ⟨k, c, t, r, m, p⟩).2 h'
  rw [h] at this; cases this
 clear h
 go_enter Tryz.func33, Tryz.ntmps33
 by_cases k0 : k < 0
 ·clear hn
  go_wp2
  all_goals
   go_ret2
   exact ⟨rfl, hbA⟩
 by_cases k9 : 9 < k
 ·clear hn
  go_wp2
  all_goals
   go_ret2
   exact ⟨rfl, hbA⟩
 by_cases c0 : c < 0
 ·clear hn
  go_wp2
  all_goals
   go_ret2
   exact ⟨rfl, hbA⟩
 by_cases c9 : 255 < c
 ·clear hn
  go_wp2
  all_goals
   go_ret2
   exact ⟨rfl, hbA⟩
 by_cases t0 : t < 0
 ·clear hn
  go_wp2
  all_goals
   go_ret2
   exact ⟨rfl, hbA⟩
 by_cases t9 : 255 < t
 ·clear hn
  go_wp2
  all_goals
   go_ret2
   exact ⟨rfl, hbA⟩
 by_cases r0 : r < 0
 ·clear hn
  go_wp2
  all_goals
   go_ret2
   exact ⟨rfl, hbA⟩
 by_cases r9 : 255 < r
 ·clear hn
  go_wp2
  all_goals
   go_ret2
   exact ⟨rfl, hbA⟩
 by_cases m0 : m < 0
 ·clear hn
  go_wp2
  all_goals
   go_ret2
   exact ⟨rfl, hbA⟩
 by_cases m9 : 255 < m
 ·clear hn
  go_wp2
  all_goals
   go_ret2
   exact ⟨rfl, hbA⟩
 by_cases p0 : p < 0
 ·clear hn
  go_wp2
  all_goals
   go_ret2
   exact ⟨rfl, hbA⟩
 by_cases p9 : 16777215 < p
 ·clear hn
  go_wp2
  all_goals
   go_ret2
   exact ⟨rfl, hbA⟩
 exact absurd (by omega) hn
end Go.Proofs.YtjpjlfjaapfnkaaGreatDoor
namespace Go.Proofs.YtjpjlfjaapfnkaaGreatDoor
open Go.ChangeShapes Go.WideShapes Go.ChangeAt Go.RowKit
set_option maxRecDepth 100000 in
set_option maxHeartbeats 4000000 in
theorem bytes_in7 (k c t r m p : Int) (w : World) (h : (⟨k, c, t, r, m, p⟩ : Ent).inR = true) (h7 : 7 ≤ k) :
 Calls Tryz.prog 33 #[.agg #[.int .i64 k, .int .i64 c, .int .i64 t, .int .i64 r, .int .i64 m, .int .i64 p]] w fun e w' => (if (⟨k, c, t, r, m, p⟩ : Ent).ok = true then ∃ A, e = .returned (.tuple #[.slice A 5 5, .bool true]) ∧ RdB w' A 5 (⟨k, c, t, r, m, p⟩ : Ent).wr else e = .returned (.tuple #[.slice none 0 0, .bool false])) ∧ Below w.heap.size w w' := by
 obtain ⟨⟨k0, k9⟩, ⟨c0, c9⟩, ⟨t0, t9⟩, ⟨r0, r9⟩, ⟨m0, m9⟩, p0, p9⟩ := inR_iff.1 h
 simp only at k0 k9 c0 c9 t0 t9 r0 r9 m0 m9 p0 p9
 have HR := Lib.hid (wr_rangeR h)
 have HEQ := Lib.hid (rdF_eq_ok h)
 have HOK := Lib.hid (rdF_ok_eq (e := ⟨k, c, t, r, m, p⟩))
 clear h
 have hwr : (⟨k, c, t, r, m, p⟩ : Ent).wr = [k, p / 65536, p / 256 % 256, p % 256, 0] := by unfold Ent.wr; rw [if_pos h7]
 rw [hwr] at HR HEQ HOK
 have HW := Lib.hid hwr
 clear hwr
 have q1 : 0 ≤ p / 65536 := by omega
 have q2 : p / 65536 ≤ 255 := by omega
 have q3 : 0 ≤ p / 256 % 256 := by omega
 have q4 : p / 256 % 256 ≤ 255 := by omega
 have q5 : 0 ≤ p % 256 := by omega
 have q6 : p % 256 ≤ 255 := by omega
 have hRB : RdB (((w.alloc (.cells #[.int .i64 k, .int .i64 c, .int .i64 t, .int .i64 r, .int .i64 m, .int .i64 p] 25)).alloc (.cells #[.int .u8 k, .int .u8 c, .int .u8 t, .int .u8 r, .int .u8 m] 5)).alloc (.cells #[.int .u8 k, .int .u8 (p / 65536), .int .u8 (p / 256 % 256), .int .u8 (p % 256), .int .u8 0] 5)) (some ⟨w.heap.size + 1 + 1, 0, none⟩) 5 [k, p / 65536, p / 256 % 256, p % 256, 0] := by
  refine ⟨rfl, HR.out, w.heap.size + 1 + 1, 0, fun _ => ⟨rfl, by simp⟩, fun i hi => ?_⟩
  rw [World.cell?_alloc_at _ _ _ _ (by simp)]
  match i with
  | 0 => rfl
  | 1 => rfl
  | 2 => rfl
  | 3 => rfl
  | 4 => rfl
  | i + 5 => omega
 have hEC : Cells6 (((w.alloc (.cells #[.int .i64 k, .int .i64 c, .int .i64 t, .int .i64 r, .int .i64 m, .int .i64 p] 25)).alloc (.cells #[.int .u8 k, .int .u8 c, .int .u8 t, .int .u8 r, .int .u8 m] 5)).alloc (.cells #[.int .u8 k, .int .u8 (p / 65536), .int .u8 (p / 256 % 256), .int .u8 (p % 256), .int .u8 0] 5)) w.heap.size 0 ⟨k, c, t, r, m, p⟩ := by
  exact (show Cells6 (w.alloc (.cells #[.int .i64 k, .int .i64 c, .int .i64 t, .int .i64 r, .int .i64 m, .int .i64 p] 25)) w.heap.size 0 ⟨k, c, t, r, m, p⟩ by unfold Cells6; simp).below (B := w.heap.size + 1) (((Below.refl _ _).alloc (by simp) _).alloc (by simp) _) (by omega)
 have hBW : Below w.heap.size w (((w.alloc (.cells #[.int .i64 k, .int .i64 c, .int .i64 t, .int .i64 r, .int .i64 m, .int .i64 p] 25)).alloc (.cells #[.int .u8 k, .int .u8 c, .int .u8 t, .int .u8 r, .int .u8 m] 5)).alloc (.cells #[.int .u8 k, .int .u8 (p / 65536), .int .u8 (p / 256 % 256), .int .u8 (p % 256), .int .u8 0] 5)) := by go_grown
 go_enter Tryz.func33, Tryz.ntmps33
 go_wp2
 generalize (((w.alloc (.cells #[.int .i64 k, .int .i64 c, .int .i64 t, .int .i64 r, .int .i64 m, .int .i64 p] 25)).alloc (.cells #[.int .u8 k, .int .u8 c, .int .u8 t, .int .u8 r, .int .u8 m] 5)).alloc (.cells #[.int .u8 k, .int .u8 (p / 65536), .int .u8 (p / 256 % 256), .int .u8 (p % 256), .int .u8 0] 5)) = W at *
 generalize w.heap.size + 1 + 1 = gb at *
 have HONE := Lib.hid (fun X => one_any k (p / 65536) (p / 256 % 256) (p % 256) 0 X k0 (by omega) q1 q2 q3 q4 q5 q6 (by omega) (by omega))
 obtain ⟨_, _, gq, oq, hAq, hcq⟩ := id hRB
 obtain ⟨hgq, hgl⟩ := hAq (by omega)
 simp only [Option.some.injEq, Addr.mk.injEq, and_true] at hgq
 obtain ⟨rfl, rfl⟩ := hgq
 have b0 := hcq 0 (by omega)
 have b1 := hcq 1 (by omega)
 have b2 := hcq 2 (by omega)
 have b3 := hcq 3 (by omega)
 have b4 := hcq 4 (by omega)
 obtain ⟨e0, e1, e2, e3, e4, e5⟩ := hEC
 simp only [Nat.zero_add] at b0 b1 b2 b3 b4 e0 e1 e2 e3 e4 e5
 have b0 : W.cell? ⟨gb, 0, none⟩ = some (.int .u8 k) := b0
 have b1 : W.cell? ⟨gb, 1, none⟩ = some (.int .u8 (p / 65536)) := b1
 have b2 : W.cell? ⟨gb, 2, none⟩ = some (.int .u8 (p / 256 % 256)) := b2
 have b3 : W.cell? ⟨gb, 3, none⟩ = some (.int .u8 (p % 256)) := b3
 have b4 : W.cell? ⟨gb, 4, none⟩ = some (.int .u8 0) := b4
 have HRB := Lib.hid hRB
 have HBW := Lib.hid hBW
 have HEQ2 := Lib.hid (show rdF k (p / 65536) (p / 256 % 256) (p % 256) 0 = ⟨k, c, t, r, m, p⟩ → (⟨k, c, t, r, m, p⟩ : Ent).ok = true from HEQ.out)
 have HOK2 := Lib.hid (show (⟨k, c, t, r, m, p⟩ : Ent).ok = true → rdF k (p / 65536) (p / 256 % 256) (p % 256) 0 = ⟨k, c, t, r, m, p⟩ from HOK.out)
 clear hRB hBW hAq hcq hgl HEQ HOK HR
 have i0 : IntKind.i64.wrap k = k := by rw [IntKind.wrap_i64]; omega
 have i1 : IntKind.i64.wrap (p / 65536) = (p / 65536) := by rw [IntKind.wrap_i64]; omega
 have i2 : IntKind.i64.wrap (p / 256 % 256) = (p / 256 % 256) := by rw [IntKind.wrap_i64]; omega
 have i3 : IntKind.i64.wrap (p % 256) = (p % 256) := by rw [IntKind.wrap_i64]; omega
 have i4 : IntKind.i64.wrap 0 = 0 := by rw [IntKind.wrap_i64]; omega
 obtain ⟨⟨fk, fc, ft, fr, fm, fp⟩, hF⟩ : ∃ F, rdF k (p / 65536) (p / 256 % 256) (p % 256) 0 = F := ⟨_, rfl⟩
 rw [hF] at HONE HEQ2 HOK2
 clear hF
 by_cases hall : fk = k ∧ fc = c ∧ ft = t ∧ fr = r ∧ fm = m ∧ fp = p
 ·obtain ⟨n0, n1, n2, n3, n4, n5⟩ := hall
  rw [n0, n1, n2, n3, n4, n5] at HONE HEQ2 HOK2
  clear n0 n1 n2 n3 n4 n5
  have HOKE := Lib.hid (HEQ2.out rfl)
  refine wp_region_N (S := (fun w' => (w'.cell? ⟨gb, 0, none⟩ = some (.int .u8 k) ∧ w'.cell? ⟨gb, 1, none⟩ = some (.int .u8 (p / 65536)) ∧ w'.cell? ⟨gb, 2, none⟩ = some (.int .u8 (p / 256 % 256)) ∧ w'.cell? ⟨gb, 3, none⟩ = some (.int .u8 (p % 256)) ∧ w'.cell? ⟨gb, 4, none⟩ = some (.int .u8 0)) ∧ w'.cell? ⟨w.heap.size, 0, none⟩ = some (.int .i64 k) ∧ w'.cell? ⟨w.heap.size, 1, none⟩ = some (.int .i64 c) ∧ w'.cell? ⟨w.heap.size, 2, none⟩ = some (.int .i64 t) ∧ w'.cell? ⟨w.heap.size, 3, none⟩ = some (.int .i64 r) ∧ w'.cell? ⟨w.heap.size, 4, none⟩ = some (.int .i64 m) ∧ w'.cell? ⟨w.heap.size, 5, none⟩ = some (.int .i64 p))) (fun i => true) (by kernel_rfl) ?_ (fun hHeld => ?_)
  ·(try dsimp only)
   first
    | (refine ⟨⟨?_, ?_, ?_, ?_, ?_⟩, ?_, ?_, ?_, ?_, ?_, ?_⟩ <;> with_reducible assumption)
    | (refine ⟨⟨cell_keep ?_ b0, cell_keep ?_ b1, cell_keep ?_ b2, cell_keep ?_ b3, cell_keep ?_ b4⟩, cell_keep ?_ e0, cell_keep ?_ e1, cell_keep ?_ e2, cell_keep ?_ e3, cell_keep ?_ e4, cell_keep ?_ e5⟩ <;> (go_grown; done))
  refine tk (i := 0) (v := ?_) rfl (by kernel_rfl) (fun _ _ _ h => h) (Or.inl ⟨by first | kernel_rfl | rfl, ?_⟩) (by assumption) ?_
  rotate_left
  focus intro w hSw; (try dsimp only at hSw); go_simp; try with_reducible rfl
  try (unfold Act.put; dsimp only)
  refine tk (i := 1) (v := ?_) rfl (by kernel_rfl) (fun _ _ _ h => h) (Or.inl ⟨by first | kernel_rfl | rfl, ?_⟩) (by assumption) ?_
  rotate_left
  focus intro w hSw; (try dsimp only at hSw); go_simp; try with_reducible rfl
  try (unfold Act.put; dsimp only)
  refine tk (i := 2) (v := ?_) rfl (by kernel_rfl) (fun _ _ _ h => h) (Or.inl ⟨by first | kernel_rfl | rfl, ?_⟩) (by assumption) ?_
  rotate_left
  focus intro w hSw; (try dsimp only at hSw); go_simp; try with_reducible rfl
  try (unfold Act.put; dsimp only)
  refine tk (i := 3) (v := ?_) rfl (by kernel_rfl) (fun _ _ _ h => h) (Or.inl ⟨by first | kernel_rfl | rfl, ?_⟩) (by assumption) ?_
  rotate_left
  focus intro w hSw; (try dsimp only at hSw); go_simp; try with_reducible rfl
  try (unfold Act.put; dsimp only)
  refine tk (i := 4) (v := ?_) rfl (by kernel_rfl) (fun _ _ _ h => h) (Or.inl ⟨by first | kernel_rfl | rfl, ?_⟩) (by assumption) ?_
  rotate_left
  focus intro w hSw; (try dsimp only at hSw); go_simp; try with_reducible rfl
  try (unfold Act.put; dsimp only)
  refine tk (i := 5) (v := ?_) rfl (by kernel_rfl) (fun _ _ _ h => h) (Or.inl ⟨by first | kernel_rfl | rfl, ?_⟩) (by assumption) ?_
  rotate_left
  focus intro w hSw; (try dsimp only at hSw); go_simp; try with_reducible rfl
  try (unfold Act.put; dsimp only)
  refine tk (i := 6) (v := ?_) rfl (by kernel_rfl) (fun _ _ _ h => h) (Or.inl ⟨by first | kernel_rfl | rfl, ?_⟩) (by assumption) ?_
  rotate_left
  focus intro w hSw; (try dsimp only at hSw); go_simp; try with_reducible rfl
  try (unfold Act.put; dsimp only)
  refine tk (i := 7) (v := ?_) rfl (by kernel_rfl) (fun _ _ _ h => h) (Or.inl ⟨by first | kernel_rfl | rfl, ?_⟩) (by assumption) ?_
  rotate_left
  focus intro w hSw; (try dsimp only at hSw); go_simp; try with_reducible rfl
  try (unfold Act.put; dsimp only)
  refine tk (i := 8) (v := ?_) rfl (by kernel_rfl) (fun _ _ _ h => h) (Or.inl ⟨by first | kernel_rfl | rfl, ?_⟩) (by assumption) ?_
  rotate_left
  focus intro w hSw; (try dsimp only at hSw); go_simp; try with_reducible rfl
  try (unfold Act.put; dsimp only)
  refine tk (i := 9) (v := ?_) rfl (by kernel_rfl) (fun _ _ _ h => h) (Or.inl ⟨by first | kernel_rfl | rfl, ?_⟩) (by assumption) ?_
  rotate_left
  focus intro w hSw; (try dsimp only at hSw); go_simp; try with_reducible rfl
  try (unfold Act.put; dsimp only)
  refine tk (i := 10) (v := ?_) rfl (by kernel_rfl) (fun _ _ _ h => h) (Or.inl ⟨by first | kernel_rfl | rfl, ?_⟩) (by assumption) ?_
  rotate_left
  focus intro w hSw; (try dsimp only at hSw); go_simp; try with_reducible rfl
  try (unfold Act.put; dsimp only)
  refine tk (i := 11) (v := ?_) rfl (by kernel_rfl) (fun _ _ _ h => h) (Or.inl ⟨by first | kernel_rfl | rfl, ?_⟩) (by assumption) ?_
  rotate_left
  focus intro w hSw; (try dsimp only at hSw); go_simp; try with_reducible rfl
  try (unfold Act.put; dsimp only)
  refine tk (i := 12) (v := ?_) rfl (by kernel_rfl) (fun _ _ _ h => h) (Or.inl ⟨by first | kernel_rfl | rfl, ?_⟩) (by assumption) ?_
  rotate_left
  focus intro w hSw; (try dsimp only at hSw); go_simp; try with_reducible rfl
  try (unfold Act.put; dsimp only)
  refine tk (i := 13) (v := ?_) rfl (by kernel_rfl) (fun _ _ _ h => h) (Or.inl ⟨by first | kernel_rfl | rfl, ?_⟩) (by assumption) ?_
  rotate_left
  focus intro w hSw; (try dsimp only at hSw); go_simp; try with_reducible rfl
  try (unfold Act.put; dsimp only)
  refine tk (i := 14) (v := ?_) rfl (by kernel_rfl) (fun _ _ _ h => h) (Or.inl ⟨by first | kernel_rfl | rfl, ?_⟩) (by assumption) ?_
  rotate_left
  focus intro w hSw; (try dsimp only at hSw); go_simp; try with_reducible rfl
  try (unfold Act.put; dsimp only)
  refine tk (i := 15) (v := ?_) rfl (by kernel_rfl) (fun _ _ _ h => h) (Or.inl ⟨by first | kernel_rfl | rfl, ?_⟩) (by assumption) ?_
  rotate_left
  focus intro w hSw; (try dsimp only at hSw); go_simp; try with_reducible rfl
  try (unfold Act.put; dsimp only)
  refine tk (i := 16) (v := ?_) rfl (by kernel_rfl) (fun _ _ _ h => h) (Or.inl ⟨by first | kernel_rfl | rfl, ?_⟩) (by assumption) ?_
  rotate_left
  focus intro w hSw; (try dsimp only at hSw); go_simp; try with_reducible rfl
  try (unfold Act.put; dsimp only)
  refine tk (i := 17) (v := ?_) rfl (by kernel_rfl) (fun _ _ _ h => h) (Or.inl ⟨by first | kernel_rfl | rfl, ?_⟩) (by assumption) ?_
  rotate_left
  focus intro w hSw; (try dsimp only at hSw); go_simp; try with_reducible rfl
  try (unfold Act.put; dsimp only)
  refine tk (i := 18) (v := ?_) rfl (by kernel_rfl) (fun _ _ _ h => h) (Or.inl ⟨by first | kernel_rfl | rfl, ?_⟩) (by assumption) ?_
  rotate_left
  focus intro w hSw; (try dsimp only at hSw); go_simp; try with_reducible rfl
  try (unfold Act.put; dsimp only)
  refine tk (i := 19) (v := ?_) rfl (by kernel_rfl) (fun _ _ _ h => h) (Or.inl ⟨by first | kernel_rfl | rfl, ?_⟩) (by assumption) ?_
  rotate_left
  focus intro w hSw; (try dsimp only at hSw); go_simp; try with_reducible rfl
  try (unfold Act.put; dsimp only)
  refine tk (i := 21) (v := ?_) rfl (by kernel_rfl) (fun _ _ _ h => h) (Or.inl ⟨by first | kernel_rfl | rfl, ?_⟩) (by assumption) ?_
  rotate_left
  focus intro w hSw; (try dsimp only at hSw); go_simp; try with_reducible rfl
  try (unfold Act.put; dsimp only)
  refine wpAnyN_ready (rs := [20]) (by kernel_rfl) (by simp) ?_
  refine AllReadyN.cons rfl (fun K hK => ?_) ?_
  ·go_simp
   go_at_call 71
   refine (HONE.out _).mono ?_
   rintro e w5 ⟨rfl, hb5⟩
   have hbw5 : Below W.heap.size W w5 := Below.trans (show Below W.heap.size W _ by go_grown) (hb5.mono (by first | exact Nat.le_refl _ | (simp; done) | omega))
   unfold Ent.val
   dsimp only
   refine hK.out _ _ ?_ (fun hHeld => ?_)
   ·(try dsimp only)
    first
     | (refine ⟨⟨?_, ?_, ?_, ?_, ?_⟩, ?_, ?_, ?_, ?_, ?_, ?_⟩ <;> with_reducible assumption)
     | (refine ⟨⟨cell_keep ?_ b0, cell_keep ?_ b1, cell_keep ?_ b2, cell_keep ?_ b3, cell_keep ?_ b4⟩, cell_keep ?_ e0, cell_keep ?_ e1, cell_keep ?_ e2, cell_keep ?_ e3, cell_keep ?_ e4, cell_keep ?_ e5⟩ <;> (go_grown; done))
   clear hK K
   (try change wpAnyN _ _ _ _ _ _ _ _ (Act.put _ (some 125) _) _)
   try (unfold Act.put; dsimp only)
   refine tk (i := 22) (v := ?_) rfl (by kernel_rfl) (fun _ _ _ h => h) (Or.inl ⟨by first | kernel_rfl | rfl, ?_⟩) (by assumption) ?_
   rotate_left
   focus intro w hSw; (try dsimp only at hSw); go_simp; try with_reducible rfl
   try (unfold Act.put; dsimp only)
   refine wpAnyN_done (by kernel_rfl) ?_ _
   (simp only [List.setIfInBounds_toArray, List.set_cons_succ, List.set_cons_zero])
   go_wp2
   go_ret2
   first | rw [if_pos HOKE.out, HW.out] | rw [HW.out]
   exact ⟨⟨_, rfl, HRB.out.below hbw5⟩, HBW.out.trans (hbw5.mono HBW.out.size)⟩
  exact AllReadyN.nil
 ·have hnest : ∀ {α : Type} (A B : α), (if fk = k then if fc = c then if ft = t then if fr = r then if fm = m then if fp = p then A else B else B else B else B else B else B) = B := fun A B => by
   by_cases n0 : fk = k
   ·rw [if_pos n0]
    by_cases n1 : fc = c
    ·rw [if_pos n1]
     by_cases n2 : ft = t
     ·rw [if_pos n2]
      by_cases n3 : fr = r
      ·rw [if_pos n3]
       by_cases n4 : fm = m
       ·rw [if_pos n4]
        by_cases n5 : fp = p
        ·exact absurd ⟨n0, n1, n2, n3, n4, n5⟩ hall
        ·rw [if_neg n5]
       ·rw [if_neg n4]
      ·rw [if_neg n3]
     ·rw [if_neg n2]
    ·rw [if_neg n1]
   ·rw [if_neg n0]
  have HOKE := Lib.hid (show ¬ (⟨k, c, t, r, m, p⟩ : Ent).ok = true from fun h => by
   have := HOK2.out h
   rw [Ent.mk.injEq] at this
   exact hall this)
  clear hall
  refine wp_region_N (S := (fun w' => (w'.cell? ⟨gb, 0, none⟩ = some (.int .u8 k) ∧ w'.cell? ⟨gb, 1, none⟩ = some (.int .u8 (p / 65536)) ∧ w'.cell? ⟨gb, 2, none⟩ = some (.int .u8 (p / 256 % 256)) ∧ w'.cell? ⟨gb, 3, none⟩ = some (.int .u8 (p % 256)) ∧ w'.cell? ⟨gb, 4, none⟩ = some (.int .u8 0)) ∧ w'.cell? ⟨w.heap.size, 0, none⟩ = some (.int .i64 k) ∧ w'.cell? ⟨w.heap.size, 1, none⟩ = some (.int .i64 c) ∧ w'.cell? ⟨w.heap.size, 2, none⟩ = some (.int .i64 t) ∧ w'.cell? ⟨w.heap.size, 3, none⟩ = some (.int .i64 r) ∧ w'.cell? ⟨w.heap.size, 4, none⟩ = some (.int .i64 m) ∧ w'.cell? ⟨w.heap.size, 5, none⟩ = some (.int .i64 p))) (fun i => true) (by kernel_rfl) ?_ (fun hHeld => ?_)
  ·(try dsimp only)
   first
    | (refine ⟨⟨?_, ?_, ?_, ?_, ?_⟩, ?_, ?_, ?_, ?_, ?_, ?_⟩ <;> with_reducible assumption)
    | (refine ⟨⟨cell_keep ?_ b0, cell_keep ?_ b1, cell_keep ?_ b2, cell_keep ?_ b3, cell_keep ?_ b4⟩, cell_keep ?_ e0, cell_keep ?_ e1, cell_keep ?_ e2, cell_keep ?_ e3, cell_keep ?_ e4, cell_keep ?_ e5⟩ <;> (go_grown; done))
  refine tk (i := 0) (v := ?_) rfl (by kernel_rfl) (fun _ _ _ h => h) (Or.inl ⟨by first | kernel_rfl | rfl, ?_⟩) (by assumption) ?_
  rotate_left
  focus intro w hSw; (try dsimp only at hSw); go_simp; try with_reducible rfl
  try (unfold Act.put; dsimp only)
  refine tk (i := 1) (v := ?_) rfl (by kernel_rfl) (fun _ _ _ h => h) (Or.inl ⟨by first | kernel_rfl | rfl, ?_⟩) (by assumption) ?_
  rotate_left
  focus intro w hSw; (try dsimp only at hSw); go_simp; try with_reducible rfl
  try (unfold Act.put; dsimp only)
  refine tk (i := 2) (v := ?_) rfl (by kernel_rfl) (fun _ _ _ h => h) (Or.inl ⟨by first | kernel_rfl | rfl, ?_⟩) (by assumption) ?_
  rotate_left
  focus intro w hSw; (try dsimp only at hSw); go_simp; try with_reducible rfl
  try (unfold Act.put; dsimp only)
  refine tk (i := 3) (v := ?_) rfl (by kernel_rfl) (fun _ _ _ h => h) (Or.inl ⟨by first | kernel_rfl | rfl, ?_⟩) (by assumption) ?_
  rotate_left
  focus intro w hSw; (try dsimp only at hSw); go_simp; try with_reducible rfl
  try (unfold Act.put; dsimp only)
  refine tk (i := 4) (v := ?_) rfl (by kernel_rfl) (fun _ _ _ h => h) (Or.inl ⟨by first | kernel_rfl | rfl, ?_⟩) (by assumption) ?_
  rotate_left
  focus intro w hSw; (try dsimp only at hSw); go_simp; try with_reducible rfl
  try (unfold Act.put; dsimp only)
  refine tk (i := 5) (v := ?_) rfl (by kernel_rfl) (fun _ _ _ h => h) (Or.inl ⟨by first | kernel_rfl | rfl, ?_⟩) (by assumption) ?_
  rotate_left
  focus intro w hSw; (try dsimp only at hSw); go_simp; try with_reducible rfl
  try (unfold Act.put; dsimp only)
  refine tk (i := 6) (v := ?_) rfl (by kernel_rfl) (fun _ _ _ h => h) (Or.inl ⟨by first | kernel_rfl | rfl, ?_⟩) (by assumption) ?_
  rotate_left
  focus intro w hSw; (try dsimp only at hSw); go_simp; try with_reducible rfl
  try (unfold Act.put; dsimp only)
  refine tk (i := 7) (v := ?_) rfl (by kernel_rfl) (fun _ _ _ h => h) (Or.inl ⟨by first | kernel_rfl | rfl, ?_⟩) (by assumption) ?_
  rotate_left
  focus intro w hSw; (try dsimp only at hSw); go_simp; try with_reducible rfl
  try (unfold Act.put; dsimp only)
  refine tk (i := 8) (v := ?_) rfl (by kernel_rfl) (fun _ _ _ h => h) (Or.inl ⟨by first | kernel_rfl | rfl, ?_⟩) (by assumption) ?_
  rotate_left
  focus intro w hSw; (try dsimp only at hSw); go_simp; try with_reducible rfl
  try (unfold Act.put; dsimp only)
  refine tk (i := 9) (v := ?_) rfl (by kernel_rfl) (fun _ _ _ h => h) (Or.inl ⟨by first | kernel_rfl | rfl, ?_⟩) (by assumption) ?_
  rotate_left
  focus intro w hSw; (try dsimp only at hSw); go_simp; try with_reducible rfl
  try (unfold Act.put; dsimp only)
  refine tk (i := 10) (v := ?_) rfl (by kernel_rfl) (fun _ _ _ h => h) (Or.inl ⟨by first | kernel_rfl | rfl, ?_⟩) (by assumption) ?_
  rotate_left
  focus intro w hSw; (try dsimp only at hSw); go_simp; try with_reducible rfl
  try (unfold Act.put; dsimp only)
  refine tk (i := 11) (v := ?_) rfl (by kernel_rfl) (fun _ _ _ h => h) (Or.inl ⟨by first | kernel_rfl | rfl, ?_⟩) (by assumption) ?_
  rotate_left
  focus intro w hSw; (try dsimp only at hSw); go_simp; try with_reducible rfl
  try (unfold Act.put; dsimp only)
  refine tk (i := 12) (v := ?_) rfl (by kernel_rfl) (fun _ _ _ h => h) (Or.inl ⟨by first | kernel_rfl | rfl, ?_⟩) (by assumption) ?_
  rotate_left
  focus intro w hSw; (try dsimp only at hSw); go_simp; try with_reducible rfl
  try (unfold Act.put; dsimp only)
  refine tk (i := 13) (v := ?_) rfl (by kernel_rfl) (fun _ _ _ h => h) (Or.inl ⟨by first | kernel_rfl | rfl, ?_⟩) (by assumption) ?_
  rotate_left
  focus intro w hSw; (try dsimp only at hSw); go_simp; try with_reducible rfl
  try (unfold Act.put; dsimp only)
  refine tk (i := 14) (v := ?_) rfl (by kernel_rfl) (fun _ _ _ h => h) (Or.inl ⟨by first | kernel_rfl | rfl, ?_⟩) (by assumption) ?_
  rotate_left
  focus intro w hSw; (try dsimp only at hSw); go_simp; try with_reducible rfl
  try (unfold Act.put; dsimp only)
  refine tk (i := 15) (v := ?_) rfl (by kernel_rfl) (fun _ _ _ h => h) (Or.inl ⟨by first | kernel_rfl | rfl, ?_⟩) (by assumption) ?_
  rotate_left
  focus intro w hSw; (try dsimp only at hSw); go_simp; try with_reducible rfl
  try (unfold Act.put; dsimp only)
  refine tk (i := 16) (v := ?_) rfl (by kernel_rfl) (fun _ _ _ h => h) (Or.inl ⟨by first | kernel_rfl | rfl, ?_⟩) (by assumption) ?_
  rotate_left
  focus intro w hSw; (try dsimp only at hSw); go_simp; try with_reducible rfl
  try (unfold Act.put; dsimp only)
  refine tk (i := 17) (v := ?_) rfl (by kernel_rfl) (fun _ _ _ h => h) (Or.inl ⟨by first | kernel_rfl | rfl, ?_⟩) (by assumption) ?_
  rotate_left
  focus intro w hSw; (try dsimp only at hSw); go_simp; try with_reducible rfl
  try (unfold Act.put; dsimp only)
  refine tk (i := 18) (v := ?_) rfl (by kernel_rfl) (fun _ _ _ h => h) (Or.inl ⟨by first | kernel_rfl | rfl, ?_⟩) (by assumption) ?_
  rotate_left
  focus intro w hSw; (try dsimp only at hSw); go_simp; try with_reducible rfl
  try (unfold Act.put; dsimp only)
  refine tk (i := 19) (v := ?_) rfl (by kernel_rfl) (fun _ _ _ h => h) (Or.inl ⟨by first | kernel_rfl | rfl, ?_⟩) (by assumption) ?_
  rotate_left
  focus intro w hSw; (try dsimp only at hSw); go_simp; try with_reducible rfl
  try (unfold Act.put; dsimp only)
  refine tk (i := 21) (v := ?_) rfl (by kernel_rfl) (fun _ _ _ h => h) (Or.inl ⟨by first | kernel_rfl | rfl, ?_⟩) (by assumption) ?_
  rotate_left
  focus intro w hSw; (try dsimp only at hSw); go_simp; try with_reducible rfl
  try (unfold Act.put; dsimp only)
  refine wpAnyN_ready (rs := [20]) (by kernel_rfl) (by simp) ?_
  refine AllReadyN.cons rfl (fun K hK => ?_) ?_
  ·go_simp
   go_at_call 71
   refine (HONE.out _).mono ?_
   rintro e w5 ⟨rfl, hb5⟩
   have hbw5 : Below W.heap.size W w5 := Below.trans (show Below W.heap.size W _ by go_grown) (hb5.mono (by first | exact Nat.le_refl _ | (simp; done) | omega))
   unfold Ent.val
   dsimp only
   refine hK.out _ _ ?_ (fun hHeld => ?_)
   ·(try dsimp only)
    first
     | (refine ⟨⟨?_, ?_, ?_, ?_, ?_⟩, ?_, ?_, ?_, ?_, ?_, ?_⟩ <;> with_reducible assumption)
     | (refine ⟨⟨cell_keep ?_ b0, cell_keep ?_ b1, cell_keep ?_ b2, cell_keep ?_ b3, cell_keep ?_ b4⟩, cell_keep ?_ e0, cell_keep ?_ e1, cell_keep ?_ e2, cell_keep ?_ e3, cell_keep ?_ e4, cell_keep ?_ e5⟩ <;> (go_grown; done))
   clear hK K
   (try change wpAnyN _ _ _ _ _ _ _ _ (Act.put _ (some 125) _) _)
   try (unfold Act.put; dsimp only)
   refine tk (i := 22) (v := ?_) rfl (by kernel_rfl) (fun _ _ _ h => h) (Or.inl ⟨by first | kernel_rfl | rfl, ?_⟩) (by assumption) ?_
   rotate_left
   focus intro w hSw; (try dsimp only at hSw); go_simp; try with_reducible rfl
   try (unfold Act.put; dsimp only)
   refine wpAnyN_done (by kernel_rfl) ?_ _
   (simp only [List.setIfInBounds_toArray, List.set_cons_succ, List.set_cons_zero])
   go_wp2
   go_ret2
   try rw [if_neg HOKE.out]
   exact ⟨rfl, HBW.out.trans (hbw5.mono HBW.out.size)⟩
  exact AllReadyN.nil
end Go.Proofs.YtjpjlfjaapfnkaaGreatDoor
namespace Go.Proofs.YtjpjlfjaapfnkaaGreatDoor
open Go.ChangeShapes Go.WideShapes Go.ChangeAt Go.RowKit
set_option maxRecDepth 100000 in
set_option maxHeartbeats 4000000 in
theorem bytes_in0 (k c t r m p : Int) (w : World) (h : (⟨k, c, t, r, m, p⟩ : Ent).inR = true) (h7 : ¬ 7 ≤ k) :
 Calls Tryz.prog 33 #[.agg #[.int .i64 k, .int .i64 c, .int .i64 t, .int .i64 r, .int .i64 m, .int .i64 p]] w fun e w' => (if (⟨k, c, t, r, m, p⟩ : Ent).ok = true then ∃ A, e = .returned (.tuple #[.slice A 5 5, .bool true]) ∧ RdB w' A 5 (⟨k, c, t, r, m, p⟩ : Ent).wr else e = .returned (.tuple #[.slice none 0 0, .bool false])) ∧ Below w.heap.size w w' := by
 obtain ⟨⟨k0, k9⟩, ⟨c0, c9⟩, ⟨t0, t9⟩, ⟨r0, r9⟩, ⟨m0, m9⟩, p0, p9⟩ := inR_iff.1 h
 simp only at k0 k9 c0 c9 t0 t9 r0 r9 m0 m9 p0 p9
 have HR := Lib.hid (wr_rangeR h)
 have HEQ := Lib.hid (rdF_eq_ok h)
 have HOK := Lib.hid (rdF_ok_eq (e := ⟨k, c, t, r, m, p⟩))
 clear h
 have hwr : (⟨k, c, t, r, m, p⟩ : Ent).wr = [k, c, t, r, m] := by unfold Ent.wr; rw [if_neg h7]
 rw [hwr] at HR HEQ HOK
 have HW := Lib.hid hwr
 clear hwr
 have hRB : RdB ((w.alloc (.cells #[.int .i64 k, .int .i64 c, .int .i64 t, .int .i64 r, .int .i64 m, .int .i64 p] 25)).alloc (.cells #[.int .u8 k, .int .u8 c, .int .u8 t, .int .u8 r, .int .u8 m] 5)) (some ⟨w.heap.size + 1, 0, none⟩) 5 [k, c, t, r, m] := by
  refine ⟨rfl, HR.out, w.heap.size + 1, 0, fun _ => ⟨rfl, by simp⟩, fun i hi => ?_⟩
  rw [World.cell?_alloc_at _ _ _ _ (by simp)]
  match i with
  | 0 => rfl
  | 1 => rfl
  | 2 => rfl
  | 3 => rfl
  | 4 => rfl
  | i + 5 => omega
 have hEC : Cells6 ((w.alloc (.cells #[.int .i64 k, .int .i64 c, .int .i64 t, .int .i64 r, .int .i64 m, .int .i64 p] 25)).alloc (.cells #[.int .u8 k, .int .u8 c, .int .u8 t, .int .u8 r, .int .u8 m] 5)) w.heap.size 0 ⟨k, c, t, r, m, p⟩ := by
  exact (show Cells6 (w.alloc (.cells #[.int .i64 k, .int .i64 c, .int .i64 t, .int .i64 r, .int .i64 m, .int .i64 p] 25)) w.heap.size 0 ⟨k, c, t, r, m, p⟩ by unfold Cells6; simp).below (B := w.heap.size + 1) ((Below.refl _ _).alloc (by simp) _) (by omega)
 have hBW : Below w.heap.size w ((w.alloc (.cells #[.int .i64 k, .int .i64 c, .int .i64 t, .int .i64 r, .int .i64 m, .int .i64 p] 25)).alloc (.cells #[.int .u8 k, .int .u8 c, .int .u8 t, .int .u8 r, .int .u8 m] 5)) := by go_grown
 go_enter Tryz.func33, Tryz.ntmps33
 go_wp2
 generalize ((w.alloc (.cells #[.int .i64 k, .int .i64 c, .int .i64 t, .int .i64 r, .int .i64 m, .int .i64 p] 25)).alloc (.cells #[.int .u8 k, .int .u8 c, .int .u8 t, .int .u8 r, .int .u8 m] 5)) = W at *
 generalize w.heap.size + 1 = gb at *
 have HONE := Lib.hid (fun X => one_any k c t r m X k0 (by omega) c0 c9 t0 t9 r0 r9 m0 m9)
 obtain ⟨_, _, gq, oq, hAq, hcq⟩ := id hRB
 obtain ⟨hgq, hgl⟩ := hAq (by omega)
 simp only [Option.some.injEq, Addr.mk.injEq, and_true] at hgq
 obtain ⟨rfl, rfl⟩ := hgq
 have b0 := hcq 0 (by omega)
 have b1 := hcq 1 (by omega)
 have b2 := hcq 2 (by omega)
 have b3 := hcq 3 (by omega)
 have b4 := hcq 4 (by omega)
 obtain ⟨e0, e1, e2, e3, e4, e5⟩ := hEC
 simp only [Nat.zero_add] at b0 b1 b2 b3 b4 e0 e1 e2 e3 e4 e5
 have b0 : W.cell? ⟨gb, 0, none⟩ = some (.int .u8 k) := b0
 have b1 : W.cell? ⟨gb, 1, none⟩ = some (.int .u8 c) := b1
 have b2 : W.cell? ⟨gb, 2, none⟩ = some (.int .u8 t) := b2
 have b3 : W.cell? ⟨gb, 3, none⟩ = some (.int .u8 r) := b3
 have b4 : W.cell? ⟨gb, 4, none⟩ = some (.int .u8 m) := b4
 have HRB := Lib.hid hRB
 have HBW := Lib.hid hBW
 have HEQ2 := Lib.hid (show rdF k c t r m = ⟨k, c, t, r, m, p⟩ → (⟨k, c, t, r, m, p⟩ : Ent).ok = true from HEQ.out)
 have HOK2 := Lib.hid (show (⟨k, c, t, r, m, p⟩ : Ent).ok = true → rdF k c t r m = ⟨k, c, t, r, m, p⟩ from HOK.out)
 clear hRB hBW hAq hcq hgl HEQ HOK HR
 have i0 : IntKind.i64.wrap k = k := by rw [IntKind.wrap_i64]; omega
 have i1 : IntKind.i64.wrap c = c := by rw [IntKind.wrap_i64]; omega
 have i2 : IntKind.i64.wrap t = t := by rw [IntKind.wrap_i64]; omega
 have i3 : IntKind.i64.wrap r = r := by rw [IntKind.wrap_i64]; omega
 have i4 : IntKind.i64.wrap m = m := by rw [IntKind.wrap_i64]; omega
 obtain ⟨⟨fk, fc, ft, fr, fm, fp⟩, hF⟩ : ∃ F, rdF k c t r m = F := ⟨_, rfl⟩
 rw [hF] at HONE HEQ2 HOK2
 clear hF
 by_cases hall : fk = k ∧ fc = c ∧ ft = t ∧ fr = r ∧ fm = m ∧ fp = p
 ·obtain ⟨n0, n1, n2, n3, n4, n5⟩ := hall
  rw [n0, n1, n2, n3, n4, n5] at HONE HEQ2 HOK2
  clear n0 n1 n2 n3 n4 n5
  have HOKE := Lib.hid (HEQ2.out rfl)
  refine wp_region_N (S := (fun w' => (w'.cell? ⟨gb, 0, none⟩ = some (.int .u8 k) ∧ w'.cell? ⟨gb, 1, none⟩ = some (.int .u8 c) ∧ w'.cell? ⟨gb, 2, none⟩ = some (.int .u8 t) ∧ w'.cell? ⟨gb, 3, none⟩ = some (.int .u8 r) ∧ w'.cell? ⟨gb, 4, none⟩ = some (.int .u8 m)) ∧ w'.cell? ⟨w.heap.size, 0, none⟩ = some (.int .i64 k) ∧ w'.cell? ⟨w.heap.size, 1, none⟩ = some (.int .i64 c) ∧ w'.cell? ⟨w.heap.size, 2, none⟩ = some (.int .i64 t) ∧ w'.cell? ⟨w.heap.size, 3, none⟩ = some (.int .i64 r) ∧ w'.cell? ⟨w.heap.size, 4, none⟩ = some (.int .i64 m) ∧ w'.cell? ⟨w.heap.size, 5, none⟩ = some (.int .i64 p))) (fun i => true) (by kernel_rfl) ?_ (fun hHeld => ?_)
  ·(try dsimp only)
   first
    | (refine ⟨⟨?_, ?_, ?_, ?_, ?_⟩, ?_, ?_, ?_, ?_, ?_, ?_⟩ <;> with_reducible assumption)
    | (refine ⟨⟨cell_keep ?_ b0, cell_keep ?_ b1, cell_keep ?_ b2, cell_keep ?_ b3, cell_keep ?_ b4⟩, cell_keep ?_ e0, cell_keep ?_ e1, cell_keep ?_ e2, cell_keep ?_ e3, cell_keep ?_ e4, cell_keep ?_ e5⟩ <;> (go_grown; done))
  refine tk (i := 0) (v := ?_) rfl (by kernel_rfl) (fun _ _ _ h => h) (Or.inl ⟨by first | kernel_rfl | rfl, ?_⟩) (by assumption) ?_
  rotate_left
  focus intro w hSw; (try dsimp only at hSw); go_simp; try with_reducible rfl
  try (unfold Act.put; dsimp only)
  refine tk (i := 1) (v := ?_) rfl (by kernel_rfl) (fun _ _ _ h => h) (Or.inl ⟨by first | kernel_rfl | rfl, ?_⟩) (by assumption) ?_
  rotate_left
  focus intro w hSw; (try dsimp only at hSw); go_simp; try with_reducible rfl
  try (unfold Act.put; dsimp only)
  refine tk (i := 2) (v := ?_) rfl (by kernel_rfl) (fun _ _ _ h => h) (Or.inl ⟨by first | kernel_rfl | rfl, ?_⟩) (by assumption) ?_
  rotate_left
  focus intro w hSw; (try dsimp only at hSw); go_simp; try with_reducible rfl
  try (unfold Act.put; dsimp only)
  refine tk (i := 3) (v := ?_) rfl (by kernel_rfl) (fun _ _ _ h => h) (Or.inl ⟨by first | kernel_rfl | rfl, ?_⟩) (by assumption) ?_
  rotate_left
  focus intro w hSw; (try dsimp only at hSw); go_simp; try with_reducible rfl
  try (unfold Act.put; dsimp only)
  refine tk (i := 4) (v := ?_) rfl (by kernel_rfl) (fun _ _ _ h => h) (Or.inl ⟨by first | kernel_rfl | rfl, ?_⟩) (by assumption) ?_
  rotate_left
  focus intro w hSw; (try dsimp only at hSw); go_simp; try with_reducible rfl
  try (unfold Act.put; dsimp only)
  refine tk (i := 5) (v := ?_) rfl (by kernel_rfl) (fun _ _ _ h => h) (Or.inl ⟨by first | kernel_rfl | rfl, ?_⟩) (by assumption) ?_
  rotate_left
  focus intro w hSw; (try dsimp only at hSw); go_simp; try with_reducible rfl
  try (unfold Act.put; dsimp only)
  refine tk (i := 6) (v := ?_) rfl (by kernel_rfl) (fun _ _ _ h => h) (Or.inl ⟨by first | kernel_rfl | rfl, ?_⟩) (by assumption) ?_
  rotate_left
  focus intro w hSw; (try dsimp only at hSw); go_simp; try with_reducible rfl
  try (unfold Act.put; dsimp only)
  refine tk (i := 7) (v := ?_) rfl (by kernel_rfl) (fun _ _ _ h => h) (Or.inl ⟨by first | kernel_rfl | rfl, ?_⟩) (by assumption) ?_
  rotate_left
  focus intro w hSw; (try dsimp only at hSw); go_simp; try with_reducible rfl
  try (unfold Act.put; dsimp only)
  refine tk (i := 8) (v := ?_) rfl (by kernel_rfl) (fun _ _ _ h => h) (Or.inl ⟨by first | kernel_rfl | rfl, ?_⟩) (by assumption) ?_
  rotate_left
  focus intro w hSw; (try dsimp only at hSw); go_simp; try with_reducible rfl
  try (unfold Act.put; dsimp only)
  refine tk (i := 9) (v := ?_) rfl (by kernel_rfl) (fun _ _ _ h => h) (Or.inl ⟨by first | kernel_rfl | rfl, ?_⟩) (by assumption) ?_
  rotate_left
  focus intro w hSw; (try dsimp only at hSw); go_simp; try with_reducible rfl
  try (unfold Act.put; dsimp only)
  refine tk (i := 10) (v := ?_) rfl (by kernel_rfl) (fun _ _ _ h => h) (Or.inl ⟨by first | kernel_rfl | rfl, ?_⟩) (by assumption) ?_
  rotate_left
  focus intro w hSw; (try dsimp only at hSw); go_simp; try with_reducible rfl
  try (unfold Act.put; dsimp only)
  refine tk (i := 11) (v := ?_) rfl (by kernel_rfl) (fun _ _ _ h => h) (Or.inl ⟨by first | kernel_rfl | rfl, ?_⟩) (by assumption) ?_
  rotate_left
  focus intro w hSw; (try dsimp only at hSw); go_simp; try with_reducible rfl
  try (unfold Act.put; dsimp only)
  refine tk (i := 12) (v := ?_) rfl (by kernel_rfl) (fun _ _ _ h => h) (Or.inl ⟨by first | kernel_rfl | rfl, ?_⟩) (by assumption) ?_
  rotate_left
  focus intro w hSw; (try dsimp only at hSw); go_simp; try with_reducible rfl
  try (unfold Act.put; dsimp only)
  refine tk (i := 13) (v := ?_) rfl (by kernel_rfl) (fun _ _ _ h => h) (Or.inl ⟨by first | kernel_rfl | rfl, ?_⟩) (by assumption) ?_
  rotate_left
  focus intro w hSw; (try dsimp only at hSw); go_simp; try with_reducible rfl
  try (unfold Act.put; dsimp only)
  refine tk (i := 14) (v := ?_) rfl (by kernel_rfl) (fun _ _ _ h => h) (Or.inl ⟨by first | kernel_rfl | rfl, ?_⟩) (by assumption) ?_
  rotate_left
  focus intro w hSw; (try dsimp only at hSw); go_simp; try with_reducible rfl
  try (unfold Act.put; dsimp only)
  refine tk (i := 15) (v := ?_) rfl (by kernel_rfl) (fun _ _ _ h => h) (Or.inl ⟨by first | kernel_rfl | rfl, ?_⟩) (by assumption) ?_
  rotate_left
  focus intro w hSw; (try dsimp only at hSw); go_simp; try with_reducible rfl
  try (unfold Act.put; dsimp only)
  refine tk (i := 16) (v := ?_) rfl (by kernel_rfl) (fun _ _ _ h => h) (Or.inl ⟨by first | kernel_rfl | rfl, ?_⟩) (by assumption) ?_
  rotate_left
  focus intro w hSw; (try dsimp only at hSw); go_simp; try with_reducible rfl
  try (unfold Act.put; dsimp only)
  refine tk (i := 17) (v := ?_) rfl (by kernel_rfl) (fun _ _ _ h => h) (Or.inl ⟨by first | kernel_rfl | rfl, ?_⟩) (by assumption) ?_
  rotate_left
  focus intro w hSw; (try dsimp only at hSw); go_simp; try with_reducible rfl
  try (unfold Act.put; dsimp only)
  refine tk (i := 18) (v := ?_) rfl (by kernel_rfl) (fun _ _ _ h => h) (Or.inl ⟨by first | kernel_rfl | rfl, ?_⟩) (by assumption) ?_
  rotate_left
  focus intro w hSw; (try dsimp only at hSw); go_simp; try with_reducible rfl
  try (unfold Act.put; dsimp only)
  refine tk (i := 19) (v := ?_) rfl (by kernel_rfl) (fun _ _ _ h => h) (Or.inl ⟨by first | kernel_rfl | rfl, ?_⟩) (by assumption) ?_
  rotate_left
  focus intro w hSw; (try dsimp only at hSw); go_simp; try with_reducible rfl
  try (unfold Act.put; dsimp only)
  refine tk (i := 21) (v := ?_) rfl (by kernel_rfl) (fun _ _ _ h => h) (Or.inl ⟨by first | kernel_rfl | rfl, ?_⟩) (by assumption) ?_
  rotate_left
  focus intro w hSw; (try dsimp only at hSw); go_simp; try with_reducible rfl
  try (unfold Act.put; dsimp only)
  refine wpAnyN_ready (rs := [20]) (by kernel_rfl) (by simp) ?_
  refine AllReadyN.cons rfl (fun K hK => ?_) ?_
  ·go_simp
   go_at_call 71
   refine (HONE.out _).mono ?_
   rintro e w5 ⟨rfl, hb5⟩
   have hbw5 : Below W.heap.size W w5 := Below.trans (show Below W.heap.size W _ by go_grown) (hb5.mono (by first | exact Nat.le_refl _ | (simp; done) | omega))
   unfold Ent.val
   dsimp only
   refine hK.out _ _ ?_ (fun hHeld => ?_)
   ·(try dsimp only)
    first
     | (refine ⟨⟨?_, ?_, ?_, ?_, ?_⟩, ?_, ?_, ?_, ?_, ?_, ?_⟩ <;> with_reducible assumption)
     | (refine ⟨⟨cell_keep ?_ b0, cell_keep ?_ b1, cell_keep ?_ b2, cell_keep ?_ b3, cell_keep ?_ b4⟩, cell_keep ?_ e0, cell_keep ?_ e1, cell_keep ?_ e2, cell_keep ?_ e3, cell_keep ?_ e4, cell_keep ?_ e5⟩ <;> (go_grown; done))
   clear hK K
   (try change wpAnyN _ _ _ _ _ _ _ _ (Act.put _ (some 125) _) _)
   try (unfold Act.put; dsimp only)
   refine tk (i := 22) (v := ?_) rfl (by kernel_rfl) (fun _ _ _ h => h) (Or.inl ⟨by first | kernel_rfl | rfl, ?_⟩) (by assumption) ?_
   rotate_left
   focus intro w hSw; (try dsimp only at hSw); go_simp; try with_reducible rfl
   try (unfold Act.put; dsimp only)
   refine wpAnyN_done (by kernel_rfl) ?_ _
   (simp only [List.setIfInBounds_toArray, List.set_cons_succ, List.set_cons_zero])
   go_wp2
   go_ret2
   first | rw [if_pos HOKE.out, HW.out] | rw [HW.out]
   exact ⟨⟨_, rfl, HRB.out.below hbw5⟩, HBW.out.trans (hbw5.mono HBW.out.size)⟩
  exact AllReadyN.nil
 ·have hnest : ∀ {α : Type} (A B : α), (if fk = k then if fc = c then if ft = t then if fr = r then if fm = m then if fp = p then A else B else B else B else B else B else B) = B := fun A B => by
   by_cases n0 : fk = k
   ·rw [if_pos n0]
    by_cases n1 : fc = c
    ·rw [if_pos n1]
     by_cases n2 : ft = t
     ·rw [if_pos n2]
      by_cases n3 : fr = r
      ·rw [if_pos n3]
       by_cases n4 : fm = m
       ·rw [if_pos n4]
        by_cases n5 : fp = p
        ·exact absurd ⟨n0, n1, n2, n3, n4, n5⟩ hall
        ·rw [if_neg n5]
       ·rw [if_neg n4]
      ·rw [if_neg n3]
     ·rw [if_neg n2]
    ·rw [if_neg n1]
   ·rw [if_neg n0]
  have HOKE := Lib.hid (show ¬ (⟨k, c, t, r, m, p⟩ : Ent).ok = true from fun h => by
   have := HOK2.out h
   rw [Ent.mk.injEq] at this
   exact hall this)
  clear hall
  refine wp_region_N (S := (fun w' => (w'.cell? ⟨gb, 0, none⟩ = some (.int .u8 k) ∧ w'.cell? ⟨gb, 1, none⟩ = some (.int .u8 c) ∧ w'.cell? ⟨gb, 2, none⟩ = some (.int .u8 t) ∧ w'.cell? ⟨gb, 3, none⟩ = some (.int .u8 r) ∧ w'.cell? ⟨gb, 4, none⟩ = some (.int .u8 m)) ∧ w'.cell? ⟨w.heap.size, 0, none⟩ = some (.int .i64 k) ∧ w'.cell? ⟨w.heap.size, 1, none⟩ = some (.int .i64 c) ∧ w'.cell? ⟨w.heap.size, 2, none⟩ = some (.int .i64 t) ∧ w'.cell? ⟨w.heap.size, 3, none⟩ = some (.int .i64 r) ∧ w'.cell? ⟨w.heap.size, 4, none⟩ = some (.int .i64 m) ∧ w'.cell? ⟨w.heap.size, 5, none⟩ = some (.int .i64 p))) (fun i => true) (by kernel_rfl) ?_ (fun hHeld => ?_)
  ·(try dsimp only)
   first
    | (refine ⟨⟨?_, ?_, ?_, ?_, ?_⟩, ?_, ?_, ?_, ?_, ?_, ?_⟩ <;> with_reducible assumption)
    | (refine ⟨⟨cell_keep ?_ b0, cell_keep ?_ b1, cell_keep ?_ b2, cell_keep ?_ b3, cell_keep ?_ b4⟩, cell_keep ?_ e0, cell_keep ?_ e1, cell_keep ?_ e2, cell_keep ?_ e3, cell_keep ?_ e4, cell_keep ?_ e5⟩ <;> (go_grown; done))
  refine tk (i := 0) (v := ?_) rfl (by kernel_rfl) (fun _ _ _ h => h) (Or.inl ⟨by first | kernel_rfl | rfl, ?_⟩) (by assumption) ?_
  rotate_left
  focus intro w hSw; (try dsimp only at hSw); go_simp; try with_reducible rfl
  try (unfold Act.put; dsimp only)
  refine tk (i := 1) (v := ?_) rfl (by kernel_rfl) (fun _ _ _ h => h) (Or.inl ⟨by first | kernel_rfl | rfl, ?_⟩) (by assumption) ?_
  rotate_left
  focus intro w hSw; (try dsimp only at hSw); go_simp; try with_reducible rfl
  try (unfold Act.put; dsimp only)
  refine tk (i := 2) (v := ?_) rfl (by kernel_rfl) (fun _ _ _ h => h) (Or.inl ⟨by first | kernel_rfl | rfl, ?_⟩) (by assumption) ?_
  rotate_left
  focus intro w hSw; (try dsimp only at hSw); go_simp; try with_reducible rfl
  try (unfold Act.put; dsimp only)
  refine tk (i := 3) (v := ?_) rfl (by kernel_rfl) (fun _ _ _ h => h) (Or.inl ⟨by first | kernel_rfl | rfl, ?_⟩) (by assumption) ?_
  rotate_left
  focus intro w hSw; (try dsimp only at hSw); go_simp; try with_reducible rfl
  try (unfold Act.put; dsimp only)
  refine tk (i := 4) (v := ?_) rfl (by kernel_rfl) (fun _ _ _ h => h) (Or.inl ⟨by first | kernel_rfl | rfl, ?_⟩) (by assumption) ?_
  rotate_left
  focus intro w hSw; (try dsimp only at hSw); go_simp; try with_reducible rfl
  try (unfold Act.put; dsimp only)
  refine tk (i := 5) (v := ?_) rfl (by kernel_rfl) (fun _ _ _ h => h) (Or.inl ⟨by first | kernel_rfl | rfl, ?_⟩) (by assumption) ?_
  rotate_left
  focus intro w hSw; (try dsimp only at hSw); go_simp; try with_reducible rfl
  try (unfold Act.put; dsimp only)
  refine tk (i := 6) (v := ?_) rfl (by kernel_rfl) (fun _ _ _ h => h) (Or.inl ⟨by first | kernel_rfl | rfl, ?_⟩) (by assumption) ?_
  rotate_left
  focus intro w hSw; (try dsimp only at hSw); go_simp; try with_reducible rfl
  try (unfold Act.put; dsimp only)
  refine tk (i := 7) (v := ?_) rfl (by kernel_rfl) (fun _ _ _ h => h) (Or.inl ⟨by first | kernel_rfl | rfl, ?_⟩) (by assumption) ?_
  rotate_left
  focus intro w hSw; (try dsimp only at hSw); go_simp; try with_reducible rfl
  try (unfold Act.put; dsimp only)
  refine tk (i := 8) (v := ?_) rfl (by kernel_rfl) (fun _ _ _ h => h) (Or.inl ⟨by first | kernel_rfl | rfl, ?_⟩) (by assumption) ?_
  rotate_left
  focus intro w hSw; (try dsimp only at hSw); go_simp; try with_reducible rfl
  try (unfold Act.put; dsimp only)
  refine tk (i := 9) (v := ?_) rfl (by kernel_rfl) (fun _ _ _ h => h) (Or.inl ⟨by first | kernel_rfl | rfl, ?_⟩) (by assumption) ?_
  rotate_left
  focus intro w hSw; (try dsimp only at hSw); go_simp; try with_reducible rfl
  try (unfold Act.put; dsimp only)
  refine tk (i := 10) (v := ?_) rfl (by kernel_rfl) (fun _ _ _ h => h) (Or.inl ⟨by first | kernel_rfl | rfl, ?_⟩) (by assumption) ?_
  rotate_left
  focus intro w hSw; (try dsimp only at hSw); go_simp; try with_reducible rfl
  try (unfold Act.put; dsimp only)
  refine tk (i := 11) (v := ?_) rfl (by kernel_rfl) (fun _ _ _ h => h) (Or.inl ⟨by first | kernel_rfl | rfl, ?_⟩) (by assumption) ?_
  rotate_left
  focus intro w hSw; (try dsimp only at hSw); go_simp; try with_reducible rfl
  try (unfold Act.put; dsimp only)
  refine tk (i := 12) (v := ?_) rfl (by kernel_rfl) (fun _ _ _ h => h) (Or.inl ⟨by first | kernel_rfl | rfl, ?_⟩) (by assumption) ?_
  rotate_left
  focus intro w hSw; (try dsimp only at hSw); go_simp; try with_reducible rfl
  try (unfold Act.put; dsimp only)
  refine tk (i := 13) (v := ?_) rfl (by kernel_rfl) (fun _ _ _ h => h) (Or.inl ⟨by first | kernel_rfl | rfl, ?_⟩) (by assumption) ?_
  rotate_left
  focus intro w hSw; (try dsimp only at hSw); go_simp; try with_reducible rfl
  try (unfold Act.put; dsimp only)
  refine tk (i := 14) (v := ?_) rfl (by kernel_rfl) (fun _ _ _ h => h) (Or.inl ⟨by first | kernel_rfl | rfl, ?_⟩) (by assumption) ?_
  rotate_left
  focus intro w hSw; (try dsimp only at hSw); go_simp; try with_reducible rfl
  try (unfold Act.put; dsimp only)
  refine tk (i := 15) (v := ?_) rfl (by kernel_rfl) (fun _ _ _ h => h) (Or.inl ⟨by first | kernel_rfl | rfl, ?_⟩) (by assumption) ?_
  rotate_left
  focus intro w hSw; (try dsimp only at hSw); go_simp; try with_reducible rfl
  try (unfold Act.put; dsimp only)
  refine tk (i := 16) (v := ?_) rfl (by kernel_rfl) (fun _ _ _ h => h) (Or.inl ⟨by first | kernel_rfl | rfl, ?_⟩) (by assumption) ?_
  rotate_left
  focus intro w hSw; (try dsimp only at hSw); go_simp; try with_reducible rfl
  try (unfold Act.put; dsimp only)
  refine tk (i := 17) (v := ?_) rfl (by kernel_rfl) (fun _ _ _ h => h) (Or.inl ⟨by first | kernel_rfl | rfl, ?_⟩) (by assumption) ?_
  rotate_left
  focus intro w hSw; (try dsimp only at hSw); go_simp; try with_reducible rfl
  try (unfold Act.put; dsimp only)
  refine tk (i := 18) (v := ?_) rfl (by kernel_rfl) (fun _ _ _ h => h) (Or.inl ⟨by first | kernel_rfl | rfl, ?_⟩) (by assumption) ?_
  rotate_left
  focus intro w hSw; (try dsimp only at hSw); go_simp; try with_reducible rfl
  try (unfold Act.put; dsimp only)
  refine tk (i := 19) (v := ?_) rfl (by kernel_rfl) (fun _ _ _ h => h) (Or.inl ⟨by first | kernel_rfl | rfl, ?_⟩) (by assumption) ?_
  rotate_left
  focus intro w hSw; (try dsimp only at hSw); go_simp; try with_reducible rfl
  try (unfold Act.put; dsimp only)
  refine tk (i := 21) (v := ?_) rfl (by kernel_rfl) (fun _ _ _ h => h) (Or.inl ⟨by first | kernel_rfl | rfl, ?_⟩) (by assumption) ?_
  rotate_left
  focus intro w hSw; (try dsimp only at hSw); go_simp; try with_reducible rfl
  try (unfold Act.put; dsimp only)
  refine wpAnyN_ready (rs := [20]) (by kernel_rfl) (by simp) ?_
  refine AllReadyN.cons rfl (fun K hK => ?_) ?_
  ·go_simp
   go_at_call 71
   refine (HONE.out _).mono ?_
   rintro e w5 ⟨rfl, hb5⟩
   have hbw5 : Below W.heap.size W w5 := Below.trans (show Below W.heap.size W _ by go_grown) (hb5.mono (by first | exact Nat.le_refl _ | (simp; done) | omega))
   unfold Ent.val
   dsimp only
   refine hK.out _ _ ?_ (fun hHeld => ?_)
   ·(try dsimp only)
    first
     | (refine ⟨⟨?_, ?_, ?_, ?_, ?_⟩, ?_, ?_, ?_, ?_, ?_, ?_⟩ <;> with_reducible assumption)
     | (refine ⟨⟨cell_keep ?_ b0, cell_keep ?_ b1, cell_keep ?_ b2, cell_keep ?_ b3, cell_keep ?_ b4⟩, cell_keep ?_ e0, cell_keep ?_ e1, cell_keep ?_ e2, cell_keep ?_ e3, cell_keep ?_ e4, cell_keep ?_ e5⟩ <;> (go_grown; done))
   clear hK K
   (try change wpAnyN _ _ _ _ _ _ _ _ (Act.put _ (some 125) _) _)
   try (unfold Act.put; dsimp only)
   refine tk (i := 22) (v := ?_) rfl (by kernel_rfl) (fun _ _ _ h => h) (Or.inl ⟨by first | kernel_rfl | rfl, ?_⟩) (by assumption) ?_
   rotate_left
   focus intro w hSw; (try dsimp only at hSw); go_simp; try with_reducible rfl
   try (unfold Act.put; dsimp only)
   refine wpAnyN_done (by kernel_rfl) ?_ _
   (simp only [List.setIfInBounds_toArray, List.set_cons_succ, List.set_cons_zero])
   go_wp2
   go_ret2
   try rw [if_neg HOKE.out]
   exact ⟨rfl, HBW.out.trans (hbw5.mono HBW.out.size)⟩
  exact AllReadyN.nil
end Go.Proofs.YtjpjlfjaapfnkaaGreatDoor
namespace Go.Proofs.YtjpjlfjaapfnkaaGreatDoor
open Go.ChangeShapes Go.WideShapes Go.ChangeAt Go.RowKit
theorem bytes_any (k c t r m p : Int) (w : World) :
 Calls Tryz.prog 33 #[.agg #[.int .i64 k, .int .i64 c, .int .i64 t, .int .i64 r, .int .i64 m, .int .i64 p]] w fun e w' => (if (⟨k, c, t, r, m, p⟩ : Ent).ok = true then ∃ A, e = .returned (.tuple #[.slice A 5 5, .bool true]) ∧ RdB w' A 5 (⟨k, c, t, r, m, p⟩ : Ent).wr else e = .returned (.tuple #[.slice none 0 0, .bool false])) ∧ Below w.heap.size w w' := by
 cases h : (⟨k, c, t, r, m, p⟩ : Ent).inR with
 | true =>
  by_cases h7 : 7 ≤ k
  ·exact bytes_in7 k c t r m p w h h7
  ·exact bytes_in0 k c t r m p w h h7
 | false =>
  have hno : ¬ (⟨k, c, t, r, m, p⟩ : Ent).ok = true := fun h' => by rw [ok_inR h'] at h; cases h
  refine (bytes_out k c t r m p w h).mono ?_
  rintro e w' ⟨h1, h2⟩
  refine ⟨?_, h2⟩
  split
  ·rename_i hn; exact absurd hn hno
  ·exact h1
theorem bytes_yes (k c t r m p : Int) (w : World) (h : (⟨k, c, t, r, m, p⟩ : Ent).ok = true) :
 Calls Tryz.prog 33 #[.agg #[.int .i64 k, .int .i64 c, .int .i64 t, .int .i64 r, .int .i64 m, .int .i64 p]] w fun e w' => (∃ A, e = .returned (.tuple #[.slice A 5 5, .bool true]) ∧ RdB w' A 5 (⟨k, c, t, r, m, p⟩ : Ent).wr) ∧ Below w.heap.size w w' := by
 refine (bytes_any k c t r m p w).mono ?_
 rintro e w' ⟨h1, h2⟩
 refine ⟨?_, h2⟩
 split at h1
 ·exact h1
 ·rename_i hn; exact absurd h hn
theorem bytes_no (k c t r m p : Int) (w : World) (h : ¬ (⟨k, c, t, r, m, p⟩ : Ent).ok = true) :
 Calls Tryz.prog 33 #[.agg #[.int .i64 k, .int .i64 c, .int .i64 t, .int .i64 r, .int .i64 m, .int .i64 p]] w fun e w' => e = .returned (.tuple #[.slice none 0 0, .bool false]) ∧ Below w.heap.size w w' := by
 refine (bytes_any k c t r m p w).mono ?_
 rintro e w' ⟨h1, h2⟩
 refine ⟨?_, h2⟩
 split at h1
 ·rename_i hn; exact absurd hn h
 ·exact h1
end Go.Proofs.YtjpjlfjaapfnkaaGreatDoor

/-
  TextEvents. No conditions beyond those that each theorem states.
-/
import Derived.Test.YtjpjlfjaapfnkaaGreatDoorMO
import Derived.Test.YtjpjlfjaapfnkaaGreatDoorMU
import Derived.Test.YtjpjlfjaapfnkaaGreatDoorMP
namespace Go.Proofs.YtjpjlfjaapfnkaaGreatDoor
open Go.ChangeShapes Go.WideShapes Go.ChangeAt Go.RowKit
open C20 (Ev formB evC)
set_option linter.unusedVariables false
set_option linter.unusedSimpArgs false
set_option maxRecDepth 100000 in
set_option maxHeartbeats 2000000 in
theorem textevents_true (E : Ev) (s : ByteArray) (w : World) (hT : TxW w) (hG : 9 ≤ w.heap.size) :
    Calls Tryz.prog 5 #[.agg (evC E), .string s] w fun e w' => e = .returned (.bool true) ∧ Below w.heap.size w w' := by
  obtain ⟨c0, c1, c2, c3, c4, c5, c6⟩ := E
  have hbA : Below w.heap.size w (w.alloc (.cells #[.int .i64 c0, .int .i64 c1, .int .i64 c2, .int .i64 c3, .int .i64 c4, .int .i64 c5, .int .i64 c6] 44)) := (Below.refl _ _).alloc (Nat.le_refl _) _
  have HA := Lib.hid (alive_true (w.alloc (.cells #[.int .i64 c0, .int .i64 c1, .int .i64 c2, .int .i64 c3, .int .i64 c4, .int .i64 c5, .int .i64 c6] 44)) (hT.below hbA) (Nat.le_trans hG hbA.size))
  have HI := Lib.hid (is7_new w ⟨c0, c1, c2, c3, c4, c5, c6⟩ 44)
  have HE0 := Lib.hid (fun W (h : TxW W) => event_any ⟨c0, c1, c2, c3, c4, c5, c6⟩ W h)
  have HF0 := Lib.hid (fun W => revent_any ⟨c0, c1, c2, c3, c4, c5, c6⟩ W)
  have HK := Lib.hid (evE_cases ⟨c0, c1, c2, c3, c4, c5, c6⟩)
  obtain ⟨K, hK⟩ : ∃ x, evE ⟨c0, c1, c2, c3, c4, c5, c6⟩ = x := ⟨_, rfl⟩
  obtain ⟨X, hX⟩ : ∃ x, bsA (evS ⟨c0, c1, c2, c3, c4, c5, c6⟩) = x := ⟨_, rfl⟩
  rw [hK] at HE0 HF0 HK
  rw [hX] at HE0 HF0
  have HT := Lib.hid hT
  have HG := Lib.hid hG
  unfold evC at HI HE0 HF0 ⊢
  simp only at HI HE0 HF0 ⊢
  clear hT hG hK hX
  have hxx : (X.toList == X.toList) = true := by simp
  by_cases hs : 200 < s.size
  · have hs' : (200 : Int) < (s.size : Int) := by omega
    go_enter Tryz.func5, Tryz.ntmps5
    go_wp2_with fail
    refine HA.out.mono ?_
    rintro e w1 ⟨rfl, hb1⟩
    go_wp2
    go_ret
    exact ⟨rfl, hbA.trans (hb1.mono hbA.size)⟩
  have hs' : ¬ (200 : Int) < (s.size : Int) := by omega
  have hs2 : s.size ≤ 200 := by omega
  go_enter Tryz.func5, Tryz.ntmps5
  go_wp2_with fail
  refine HA.out.mono ?_
  rintro e w1 ⟨rfl, hb1⟩
  have hb1' := hbA.trans (hb1.mono hbA.size)
  have HI1 := Lib.hid (HI.out.below hb1)
  obtain ⟨y0, y1, y2, y3, y4, y5, y6⟩ := HI1.out
  clear HA HI
  go_wp2_with fail
  refine (HE0.out _ (HT.out.below hb1')).mono ?_
  rintro e w2 ⟨rfl, hb2⟩
  have hb2' := hb1'.trans (hb2.mono hb1'.size)
  clear y0 y1 y2 y3 y4 y5 y6
  obtain ⟨y0, y1, y2, y3, y4, y5, y6⟩ := HI1.out.below hb2
  clear HE0
  go_wp2_with fail
  refine (HF0.out _).mono ?_
  rintro e w3 ⟨rfl, hb3⟩
  have hb3' := hb2'.trans (hb3.mono hb2'.size)
  clear y0 y1 y2 y3 y4 y5 y6 HF0 HI1
  have HP := Lib.hid (parse_event s w3 (HT.out.below hb3') (by omega) (Nat.le_trans HG.out hb3'.size))
  go_wp2_with fail
  refine HP.out.mono ?_
  rintro e w4 ⟨hE4, hb4⟩
  have hb4' := hb3'.trans (hb4.mono hb3'.size)
  clear HP
  have HK15 := Lib.hid (show K = 0 ∨ 1 ≤ K ∧ K ≤ 15 from by have := HK.out; omega)
  clear HK
  cases hp : evP s.data.toList with
  | some x =>
    rw [hp] at hE4
    have HP0 := Lib.hid hp
    obtain ⟨x0, x1, x2, x3, x4, x5, x6⟩ := x
    obtain rfl : e = .returned (.tuple #[.agg #[.int .i64 x0, .int .i64 x1, .int .i64 x2, .int .i64 x3, .int .i64 x4, .int .i64 x5, .int .i64 x6], .nilIface]) := hE4
    clear hp
    have hbC : Below w4.heap.size w4 (w4.alloc (.cells #[.int .i64 x0, .int .i64 x1, .int .i64 x2, .int .i64 x3, .int .i64 x4, .int .i64 x5, .int .i64 x6] 44)) := (Below.refl _ _).alloc (Nat.le_refl _) _
    have hbC' := hb4'.trans (hbC.mono hb4'.size)
    have y0 : (w4.alloc (.cells #[.int .i64 x0, .int .i64 x1, .int .i64 x2, .int .i64 x3, .int .i64 x4, .int .i64 x5, .int .i64 x6] 44)).cell? ⟨w4.heap.size, 0, none⟩ = some (.int .i64 x0) := by simp
    have y1 : (w4.alloc (.cells #[.int .i64 x0, .int .i64 x1, .int .i64 x2, .int .i64 x3, .int .i64 x4, .int .i64 x5, .int .i64 x6] 44)).cell? ⟨w4.heap.size, 1, none⟩ = some (.int .i64 x1) := by simp
    have y2 : (w4.alloc (.cells #[.int .i64 x0, .int .i64 x1, .int .i64 x2, .int .i64 x3, .int .i64 x4, .int .i64 x5, .int .i64 x6] 44)).cell? ⟨w4.heap.size, 2, none⟩ = some (.int .i64 x2) := by simp
    have y3 : (w4.alloc (.cells #[.int .i64 x0, .int .i64 x1, .int .i64 x2, .int .i64 x3, .int .i64 x4, .int .i64 x5, .int .i64 x6] 44)).cell? ⟨w4.heap.size, 3, none⟩ = some (.int .i64 x3) := by simp
    have y4 : (w4.alloc (.cells #[.int .i64 x0, .int .i64 x1, .int .i64 x2, .int .i64 x3, .int .i64 x4, .int .i64 x5, .int .i64 x6] 44)).cell? ⟨w4.heap.size, 4, none⟩ = some (.int .i64 x4) := by simp
    have y5 : (w4.alloc (.cells #[.int .i64 x0, .int .i64 x1, .int .i64 x2, .int .i64 x3, .int .i64 x4, .int .i64 x5, .int .i64 x6] 44)).cell? ⟨w4.heap.size, 5, none⟩ = some (.int .i64 x5) := by simp
    have y6 : (w4.alloc (.cells #[.int .i64 x0, .int .i64 x1, .int .i64 x2, .int .i64 x3, .int .i64 x4, .int .i64 x5, .int .i64 x6] 44)).cell? ⟨w4.heap.size, 6, none⟩ = some (.int .i64 x6) := by simp
    have HY := Lib.hid (And.intro y0 (And.intro y1 (And.intro y2 (And.intro y3 (And.intro y4 (And.intro y5 y6))))))
    clear y0 y1 y2 y3 y4 y5 y6
    have HR := Lib.hid (rparse_event s (w4.alloc (.cells #[.int .i64 x0, .int .i64 x1, .int .i64 x2, .int .i64 x3, .int .i64 x4, .int .i64 x5, .int .i64 x6] 44)) (by omega))
    rw [evD_eq, HP0.out] at HR
    go_wp2_with fail
    refine HR.out.mono ?_
    rintro e w6 ⟨hE6, hb6⟩
    obtain rfl : e = .returned (.tuple #[.agg #[.int .i64 x0, .int .i64 x1, .int .i64 x2, .int .i64 x3, .int .i64 x4, .int .i64 x5, .int .i64 x6], .bool true]) := hE6
    have hb6' := hbC'.trans (hb6.mono hbC'.size)
    have hbD : Below w6.heap.size w6 (w6.alloc (.cells #[.int .i64 x0, .int .i64 x1, .int .i64 x2, .int .i64 x3, .int .i64 x4, .int .i64 x5, .int .i64 x6] 44)) := (Below.refl _ _).alloc (Nat.le_refl _) _
    have hbD' := hb6'.trans (hbD.mono hb6'.size)
    have hbY := hb6.trans (hbD.mono hb6.size)
    obtain ⟨y0, y1, y2, y3, y4, y5, y6⟩ := HY.out
    have z0 := cell_keep hbY y0
    have z1 := cell_keep hbY y1
    have z2 := cell_keep hbY y2
    have z3 := cell_keep hbY y3
    have z4 := cell_keep hbY y4
    have z5 := cell_keep hbY y5
    have z6 := cell_keep hbY y6
    clear y0 y1 y2 y3 y4 y5 y6 HR
    have HC := Lib.hid (fun W => code_errV K W HK15.out)
    go_wp2_with fail
    refine (HC.out _).mono ?_
    rintro e w7 ⟨rfl, rfl⟩
    go_wp2
    go_ret
    exact ⟨rfl, hbD'⟩
  | none =>
    rw [hp] at hE4
    have HP0 := Lib.hid hp
    obtain rfl : e = .returned (.tuple #[.agg #[.int .i64 0, .int .i64 0, .int .i64 0, .int .i64 0, .int .i64 0, .int .i64 0, .int .i64 0], .iface 70 (.int .i64 5)]) := hE4
    clear hp
    have hbC : Below w4.heap.size w4 (w4.alloc (.cells #[.int .i64 0, .int .i64 0, .int .i64 0, .int .i64 0, .int .i64 0, .int .i64 0, .int .i64 0] 44)) := (Below.refl _ _).alloc (Nat.le_refl _) _
    have hbC' := hb4'.trans (hbC.mono hb4'.size)
    have y0 : (w4.alloc (.cells #[.int .i64 0, .int .i64 0, .int .i64 0, .int .i64 0, .int .i64 0, .int .i64 0, .int .i64 0] 44)).cell? ⟨w4.heap.size, 0, none⟩ = some (.int .i64 0) := by simp
    have y1 : (w4.alloc (.cells #[.int .i64 0, .int .i64 0, .int .i64 0, .int .i64 0, .int .i64 0, .int .i64 0, .int .i64 0] 44)).cell? ⟨w4.heap.size, 1, none⟩ = some (.int .i64 0) := by simp
    have y2 : (w4.alloc (.cells #[.int .i64 0, .int .i64 0, .int .i64 0, .int .i64 0, .int .i64 0, .int .i64 0, .int .i64 0] 44)).cell? ⟨w4.heap.size, 2, none⟩ = some (.int .i64 0) := by simp
    have y3 : (w4.alloc (.cells #[.int .i64 0, .int .i64 0, .int .i64 0, .int .i64 0, .int .i64 0, .int .i64 0, .int .i64 0] 44)).cell? ⟨w4.heap.size, 3, none⟩ = some (.int .i64 0) := by simp
    have y4 : (w4.alloc (.cells #[.int .i64 0, .int .i64 0, .int .i64 0, .int .i64 0, .int .i64 0, .int .i64 0, .int .i64 0] 44)).cell? ⟨w4.heap.size, 4, none⟩ = some (.int .i64 0) := by simp
    have y5 : (w4.alloc (.cells #[.int .i64 0, .int .i64 0, .int .i64 0, .int .i64 0, .int .i64 0, .int .i64 0, .int .i64 0] 44)).cell? ⟨w4.heap.size, 5, none⟩ = some (.int .i64 0) := by simp
    have y6 : (w4.alloc (.cells #[.int .i64 0, .int .i64 0, .int .i64 0, .int .i64 0, .int .i64 0, .int .i64 0, .int .i64 0] 44)).cell? ⟨w4.heap.size, 6, none⟩ = some (.int .i64 0) := by simp
    have HY := Lib.hid (And.intro y0 (And.intro y1 (And.intro y2 (And.intro y3 (And.intro y4 (And.intro y5 y6))))))
    clear y0 y1 y2 y3 y4 y5 y6
    have HR := Lib.hid (rparse_event s (w4.alloc (.cells #[.int .i64 0, .int .i64 0, .int .i64 0, .int .i64 0, .int .i64 0, .int .i64 0, .int .i64 0] 44)) (by omega))
    rw [evD_eq, HP0.out] at HR
    go_wp2_with fail
    refine HR.out.mono ?_
    rintro e w6 ⟨hE6, hb6⟩
    obtain rfl : e = .returned (.tuple #[.agg #[.int .i64 0, .int .i64 0, .int .i64 0, .int .i64 0, .int .i64 0, .int .i64 0, .int .i64 0], .bool false]) := hE6
    have hb6' := hbC'.trans (hb6.mono hbC'.size)
    have hbD : Below w6.heap.size w6 (w6.alloc (.cells #[.int .i64 0, .int .i64 0, .int .i64 0, .int .i64 0, .int .i64 0, .int .i64 0, .int .i64 0] 44)) := (Below.refl _ _).alloc (Nat.le_refl _) _
    have hbD' := hb6'.trans (hbD.mono hb6'.size)
    have hbY := hb6.trans (hbD.mono hb6.size)
    obtain ⟨y0, y1, y2, y3, y4, y5, y6⟩ := HY.out
    have z0 := cell_keep hbY y0
    have z1 := cell_keep hbY y1
    have z2 := cell_keep hbY y2
    have z3 := cell_keep hbY y3
    have z4 := cell_keep hbY y4
    have z5 := cell_keep hbY y5
    have z6 := cell_keep hbY y6
    clear y0 y1 y2 y3 y4 y5 y6 HR
    have HC := Lib.hid (fun W => code_errV K W HK15.out)
    go_wp2_with fail
    refine (HC.out _).mono ?_
    rintro e w7 ⟨rfl, rfl⟩
    have HC5 := Lib.hid (fun W => code_errno 5 W (by decide) (by decide))
    go_wp2_with fail
    refine (HC5.out _).mono ?_
    rintro e w8 ⟨rfl, rfl⟩
    go_wp2
    go_ret
    exact ⟨rfl, hbD'⟩
end Go.Proofs.YtjpjlfjaapfnkaaGreatDoor

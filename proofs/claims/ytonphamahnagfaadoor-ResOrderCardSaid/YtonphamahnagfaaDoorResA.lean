/-
  res.Ok, res.Shard; catchboltlaw02.alive: true, where errors.errorType reads as the program's text lays it. No other conditions.
-/
import Derived.Test.YtonphamahnagfaaDoorResU
namespace Go.Proofs.YtonphamahnagfaaDoor
open Go.ChangeShapes Go.WideShapes Go.ChangeAt Go.RowKit
set_option linter.unusedVariables false

def okR (t r : Int) : Bool := decide (1 ≤ t) && decide (t ≤ 250) && decide (0 ≤ r) && decide (r ≤ 250)
set_option maxHeartbeats 400000 in
theorem ok_any (t r : Int) (w : World) :
    Calls Tryd.prog 17 #[.agg #[.int .i64 t, .int .i64 r]] w fun e w' => e = .returned (.bool (okR t r)) ∧ Below w.heap.size w w' := by
  have hbA : Below w.heap.size w (w.alloc (.cells #[.int .i64 t, .int .i64 r] 24)) := (Below.refl _ _).alloc (Nat.le_refl _) _
  unfold okR
  go_enter Tryd.func17, Tryd.ntmps17
  by_cases h1 : 1 ≤ t
  · by_cases h2 : t ≤ 250
    · by_cases h3 : 0 ≤ r
      · by_cases h4 : r ≤ 250
        · go_wp2
          go_ret
          exact ⟨retb (by simp [h1, h2, h3, h4]), hbA⟩
        · go_wp2
          go_ret
          exact ⟨retb (by simp; omega), hbA⟩
      · go_wp2
        go_ret
        exact ⟨retb (by simp; omega), hbA⟩
    · go_wp2
      go_ret
      exact ⟨retb (by simp; omega), hbA⟩
  · go_wp2
    go_ret
    exact ⟨retb (by simp; omega), hbA⟩
theorem ok_yes (t r : Int) (w : World) (h : okR t r = true) : Calls Tryd.prog 17 #[.agg #[.int .i64 t, .int .i64 r]] w fun e w' => e = .returned (.bool true) ∧ Below w.heap.size w w' := by
  have := ok_any t r w
  rwa [h] at this
theorem ok_no (t r : Int) (w : World) (h : okR t r = false) : Calls Tryd.prog 17 #[.agg #[.int .i64 t, .int .i64 r]] w fun e w' => e = .returned (.bool false) ∧ Below w.heap.size w w' := by
  have := ok_any t r w
  rwa [h] at this

set_option maxHeartbeats 1000000 in
theorem shard_any (t r n : Int) (w : World) (h : okR t r = true) (hn : 1 ≤ n ∧ n ≤ 64) :
    Calls Tryd.prog 15 #[.agg #[.int .i64 t, .int .i64 r], .int .i64 n] w fun e w' => e = .returned (.tuple #[.int .i64 ((t - 1) % n + 1), .nilIface]) ∧ Below w.heap.size w w' := by
  have hbA : Below w.heap.size w (w.alloc (.cells #[.int .i64 t, .int .i64 r] 24)) := (Below.refl _ _).alloc (Nat.le_refl _) _
  have hb0 : (w.alloc (.cells #[.int .i64 t, .int .i64 r] 24)).cell? ⟨w.heap.size, 0, none⟩ = some (.int .i64 t) := by simp
  have HO := Lib.hid (ok_yes t r (w.alloc (.cells #[.int .i64 t, .int .i64 r] 24)) h)
  have ht : 1 ≤ t ∧ t ≤ 250 := by
    unfold okR at h
    simp at h
    omega
  obtain ⟨ht1, ht2⟩ := ht
  obtain ⟨hn1, hn2⟩ := hn
  have hm0 : 0 ≤ (t - 1) % n := Int.emod_nonneg _ (by omega)
  have hm1 : (t - 1) % n < n := Int.emod_lt_of_pos _ (by omega)
  have htm : (t - 1).tmod n = (t - 1) % n := Int.tmod_eq_emod_of_nonneg (by omega)
  have hnz : ¬ n = 0 := by omega
  clear h
  go_enter Tryd.func15, Tryd.ntmps15
  go_wp2_with fail
  refine HO.out.mono ?_
  rintro e w5 ⟨rfl, hb5⟩
  have c0 := (hb5.cell (p := ⟨w.heap.size, 0, none⟩) (by simp)).trans hb0
  go_wp2
  go_ret2
  exact ⟨rfl, hbA.trans (hb5.mono hbA.size)⟩

theorem fault_read {w w' : World} {e : Ending} {L : List UInt8} {i : Nat} (h : ResIs w w' e (parseL L)) (hp : parseL L = .inr i) : ∃ g, e = .returned (.tuple #[.agg #[.int .i64 0, .int .i64 0], .iface 51 (.pointer (some ⟨g, 0, none⟩))]) ∧ FaultAt w' w.heap.size g i := by
  rw [hp] at h; exact h
theorem good_read {w w' : World} {e : Ending} {L : List UInt8} {t r : Nat} (h : ResIs w w' e (parseL L)) (hp : parseL L = .inl (t, r)) : e = .returned (.tuple #[.agg #[.int .i64 t, .int .i64 r], .nilIface]) := by
  rw [hp] at h; exact h

set_option maxRecDepth 100000 in
set_option maxHeartbeats 2000000 in
theorem alive_true (w : World) (hE : ErrT w) :
    Calls Tryd.prog 8 #[] w fun e w' => e = .returned (.bool true) ∧ Below w.heap.size w w' := by
  have HE := Lib.hid hE
  clear hE
  go_enter Tryd.func8, Tryd.ntmps8
  go_wp2_with fail
  refine (shard_any 3 14 2 _ (by decide) (by decide)).mono ?_
  rw [show ((3 : Int) - 1) % 2 + 1 = 1 by decide]
  rintro e w1 ⟨rfl, hb1⟩
  go_wp2_with fail
  refine (parse_any ⟨#[51, 46]⟩ w1 (HE.out.below hb1) (by decide)).mono ?_
  rintro e w2 ⟨hR2, hb2⟩
  obtain ⟨g2, rfl, hF2⟩ := fault_read hR2 (i := 2) (by decide)
  have hb2' := hb1.trans (hb2.mono hb1.size)
  clear hR2
  have hbA : Below w2.heap.size w2 (w2.alloc (.cells #[.int .i64 0, .int .i64 0] 24)) := (Below.refl _ _).alloc (Nat.le_refl _) _
  have hs2 := hb2'.size
  have hbA' := hb2'.trans (hbA.mono hs2)
  have HP3 := Lib.hid (parse_any ⟨#[50, 53, 49]⟩ (w2.alloc (.cells #[.int .i64 0, .int .i64 0] 24)) (HE.out.below hbA') (by decide))
  have HF2 := Lib.hid (hF2.below hbA)
  clear hF2
  go_wp2_with fail
  refine HP3.out.mono ?_
  rintro e w3 ⟨hR3, hb3⟩
  obtain ⟨g3, rfl, hF3⟩ := fault_read hR3 (i := 2) (by decide)
  have HF23 := Lib.hid (HF2.out.below hb3)
  have hb3' := hbA'.trans (hb3.mono hbA'.size)
  have hbC : Below w3.heap.size w3 (w3.alloc (.cells #[.int .i64 0, .int .i64 0] 24)) := (Below.refl _ _).alloc (Nat.le_refl _) _
  have hbC' := hb3'.trans (hbC.mono hb3'.size)
  have HP4 := Lib.hid (parse_any ⟨#[51, 46, 49, 52]⟩ (w3.alloc (.cells #[.int .i64 0, .int .i64 0] 24)) (HE.out.below hbC') (by decide))
  have HF24 := Lib.hid (HF23.out.below hbC)
  have HF34 := Lib.hid (hF3.below hbC)
  clear hR3 hF3 HP3
  go_wp2_with fail
  refine HP4.out.mono ?_
  rintro e w4 ⟨hR4, hb4⟩
  obtain rfl := good_read hR4 (t := 3) (r := 14) (by decide)
  have hb4' := hbC'.trans (hb4.mono hbC'.size)
  have hbD : Below w4.heap.size w4 (w4.alloc (.cells #[.int .i64 3, .int .i64 14] 24)) := (Below.refl _ _).alloc (Nat.le_refl _) _
  have hbD' := hb4'.trans (hbD.mono hb4'.size)
  have HF25 := Lib.hid ((HF24.out.below hb4).below hbD)
  have HF35 := Lib.hid ((HF34.out.below hb4).below hbD)
  have HA5 := Lib.hid (at_err _ _ _ _ HF25.out.err (HE.out.below hbD'))
  clear hR4 HP4
  go_wp2_with fail
  refine HA5.out.mono ?_
  rintro e w5 ⟨rfl, hb5⟩
  have hb5' := hbD'.trans (hb5.mono hbD'.size)
  have HF36 := Lib.hid (HF35.out.below hb5)
  have HA6 := Lib.hid (at_err _ _ _ _ HF36.out.err (HE.out.below hb5'))
  have d0 : w5.cell? ⟨w4.heap.size, 0, none⟩ = some (.int .i64 3) := (hb5.cell (p := ⟨w4.heap.size, 0, none⟩) (by simp)).trans (by simp)
  have d1 : w5.cell? ⟨w4.heap.size, 1, none⟩ = some (.int .i64 14) := (hb5.cell (p := ⟨w4.heap.size, 1, none⟩) (by simp)).trans (by simp)
  go_wp2_with fail
  refine HA6.out.mono ?_
  rintro e w6 ⟨rfl, hb6⟩
  have e0 := cell_keep hb6 d0
  have e1 := cell_keep hb6 d1
  have hb6' := hb5'.trans (hb6.mono hb5'.size)
  clear d0 d1
  go_wp2
  go_ret
  exact ⟨rfl, hb6'⟩
end Go.Proofs.YtonphamahnagfaaDoor

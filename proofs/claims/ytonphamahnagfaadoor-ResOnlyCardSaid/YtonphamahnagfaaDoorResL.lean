/-
  catchboltlaw02.ResReads: the resource of any text, or the first place at which it can't go on, is the document's. The condition: errors.errorType reads as the program's text lays it.
-/
import Derived.Test.YtonphamahnagfaaDoorResA
namespace Go.Proofs.YtonphamahnagfaaDoor
open Go.ChangeShapes Go.WideShapes Go.ChangeAt Go.RowKit
set_option linter.unusedVariables false

set_option maxRecDepth 100000 in
set_option maxHeartbeats 2000000 in
theorem reads_true (s : ByteArray) (w : World) (hE : ErrT w) :
    Calls Tryd.prog 3 #[.string s] w fun e w' => e = .returned (.bool true) ∧ Below w.heap.size w w' := by
  have HA := Lib.hid (alive_true w hE)
  have HE := Lib.hid hE
  clear hE
  go_enter Tryd.func3, Tryd.ntmps3
  go_wp2_with fail
  refine HA.out.mono ?_
  rintro e w1 ⟨rfl, hb1⟩
  have hs1 := hb1.size
  by_cases h200 : 200 < s.size
  · have h200' : (200 : Int) < s.size := by omega
    go_wp2
    go_ret
    exact ⟨rfl, hb1⟩
  · have h200' : ¬ (200 : Int) < s.size := by omega
    have HP := Lib.hid (parse_any s w1 (HE.out.below hb1) (by omega))
    have HQ := Lib.hid (fun W => rparse_any s W (by omega))
    go_wp2_with fail
    refine HP.out.mono ?_
    rintro e w2 ⟨hR2, hb2⟩
    have hb2' := hb1.trans (hb2.mono hs1)
    have hs2 := hb2'.size
    rw [parse_eq] at hR2
    clear HP
    cases hr : readL s.data.toList with
    | inr i =>
      rw [hr] at hR2
      obtain ⟨g, rfl, hF2⟩ := hR2
      have hbA : Below w2.heap.size w2 (w2.alloc (.cells #[.int .i64 0, .int .i64 0] 24)) := (Below.refl _ _).alloc (Nat.le_refl _) _
      have hbA' := hb2'.trans (hbA.mono hs2)
      have HFA := Lib.hid (hF2.below hbA)
      have z0 : (w2.alloc (.cells #[.int .i64 0, .int .i64 0] 24)).cell? ⟨w2.heap.size, 0, none⟩ = some (.int .i64 0) := by simp
      have z1 : (w2.alloc (.cells #[.int .i64 0, .int .i64 0] 24)).cell? ⟨w2.heap.size, 1, none⟩ = some (.int .i64 0) := by simp
      have Z0 := Lib.hid z0
      have Z1 := Lib.hid z1
      clear hF2 z0 z1
      go_wp2_with fail
      refine (HQ.out _).mono ?_
      rw [hr]
      rintro e w3 ⟨hR3, hb3⟩
      obtain rfl : e = .returned (.tuple #[.agg #[.int .i64 0, .int .i64 0], .int .i64 i, .int .i64 5]) := hR3
      have hb3' := hbA'.trans (hb3.mono hbA'.size)
      have hbC : Below w3.heap.size w3 (w3.alloc (.cells #[.int .i64 0, .int .i64 0] 24)) := (Below.refl _ _).alloc (Nat.le_refl _) _
      have hbC' := hb3'.trans (hbC.mono hb3'.size)
      have HF4 := Lib.hid ((HFA.out.below hb3).below hbC)
      have y0 := cell_keep hbC (cell_keep hb3 Z0.out)
      have y1 := cell_keep hbC (cell_keep hb3 Z1.out)
      have HA4 := Lib.hid (at_err _ _ _ _ HF4.out.err (HE.out.below hbC'))
      go_wp2_with (go_at_call 11; refine (code_err _ _ _ _ HF4.out.err).mono ?_; rintro e w' ⟨rfl, rfl⟩)
      refine HA4.out.mono ?_
      rintro e w5 ⟨rfl, hb5⟩
      go_wp2
      go_ret
      exact ⟨rfl, hbC'.trans (hb5.mono hbC'.size)⟩
    | inl p =>
      obtain ⟨t, r⟩ := p
      rw [hr] at hR2
      obtain rfl : e = .returned (.tuple #[.agg #[.int .i64 t, .int .i64 r], .nilIface]) := hR2
      have hbA : Below w2.heap.size w2 (w2.alloc (.cells #[.int .i64 t, .int .i64 r] 24)) := (Below.refl _ _).alloc (Nat.le_refl _) _
      have hbA' := hb2'.trans (hbA.mono hs2)
      have z0 : (w2.alloc (.cells #[.int .i64 t, .int .i64 r] 24)).cell? ⟨w2.heap.size, 0, none⟩ = some (.int .i64 t) := by simp
      have z1 : (w2.alloc (.cells #[.int .i64 t, .int .i64 r] 24)).cell? ⟨w2.heap.size, 1, none⟩ = some (.int .i64 r) := by simp
      have Z0 := Lib.hid z0
      have Z1 := Lib.hid z1
      clear z0 z1
      go_wp2_with fail
      refine (HQ.out _).mono ?_
      rw [hr]
      rintro e w3 ⟨hR3, hb3⟩
      obtain rfl : e = .returned (.tuple #[.agg #[.int .i64 t, .int .i64 r], .int .i64 0, .int .i64 0]) := hR3
      have hb3' := hbA'.trans (hb3.mono hbA'.size)
      have hbC : Below w3.heap.size w3 (w3.alloc (.cells #[.int .i64 t, .int .i64 r] 24)) := (Below.refl _ _).alloc (Nat.le_refl _) _
      have hbC' := hb3'.trans (hbC.mono hb3'.size)
      have y0 := cell_keep hbC (cell_keep hb3 Z0.out)
      have y1 := cell_keep hbC (cell_keep hb3 Z1.out)
      go_wp2
      go_ret
      exact ⟨rfl, hbC'⟩
end Go.Proofs.YtonphamahnagfaaDoor

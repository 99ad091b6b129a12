/-
  catchboltlaw03.alive: true, where errors.errorType is what the program's text lays. No other conditions.
-/
import Derived.Test.YtdbiigcabfnpfaaDoorWordQ
import Derived.Test.YtdbiigcabfnpfaaDoorWordU
namespace Go.Proofs.YtdbiigcabfnpfaaDoor
open Go.ChangeShapes Go.WideShapes Go.ChangeAt Go.RowKit
set_option linter.unusedVariables false

theorem err_nil {w : World} {v : Value} {a : Int} (h : ErrIs w v 0 a) : v = .nilIface ∧ a = -1 := by
  rcases h with ⟨h, _, h2⟩ | ⟨_, h, _⟩ | ⟨b, _, h, _⟩
  · exact ⟨h, h2⟩
  · omega
  · omega
theorem err_some {w : World} {v : Value} {c a : Int} (h : ErrIs w v c a) (hc : c ≠ 0) : ∃ T u, v = .iface T u := by
  rcases h with ⟨h, h1, h2⟩ | ⟨h, _⟩ | ⟨b, h, _⟩
  · exact absurd h1 hc
  · exact ⟨_, _, h⟩
  · exact ⟨_, _, h⟩
/-- behind a call on a reader all that lay before it is as it was -/
theorem gb_low {B g : Nat} {w w1 : World} (hg : w.grownBy w1 (some g)) (hB : B ≤ g) (hs : B ≤ w.heap.size) : Below B w w1 :=
  Below.grown (Below.refl _ _) hg hs (fun k e => by cases e; exact hB)

set_option maxRecDepth 100000 in
set_option maxHeartbeats 300000 in
theorem alive_true (w : World) (hE : ErrT w) :
    Calls Tryd.prog 7 #[] w fun e w' => e = .returned (.bool true) ∧ Below w.heap.size w w' := by
  have hbA : Below w.heap.size w (w.alloc (.cells #[.int .i64 1, .int .i64 258] 3)) := (Below.refl _ _).alloc (Nat.le_refl _) _
  have HP := Lib.hid (put_any none (some ⟨w.heap.size, 0, none⟩) 0 0 2 2 [] [1, 258] 2 (w.alloc (.cells #[.int .i64 1, .int .i64 258] 3)) rfl (rdn_nil _ _ _) rfl (rdn_cells (k := .i64) (cs := #[.int .i64 1, .int .i64 258]) (T := 3) [1, 258] (by rw [heap_push]; simp) (by simp [numV])) (by omega) (by decide))
  rw [show putS 2 [] [1, 258] = ([0, 1, 1, 2], 0, -1) by decide] at HP
  have HbA := Lib.hid hbA
  have HE := Lib.hid hE
  clear hbA hE
  go_enter Tryd.func7, Tryd.ntmps7
  go_wp2_with fail
  refine HP.out.mono ?_
  rintro e w1 ⟨⟨A1, n1, c1, ev1, rfl, hR1, hl1, hc1, _, _, hE1⟩, hb1⟩
  obtain ⟨rfl, _⟩ := err_nil hE1
  simp only [List.length_cons, List.length_nil] at hl1
  subst hl1
  have hb1' : Below w.heap.size w w1 := HbA.out.trans (hb1.mono HbA.out.size)
  have hbB : Below w1.heap.size w1 (w1.alloc (.cells #[.int .u8 1] 5)) := (Below.refl _ _).alloc (Nat.le_refl _) _
  have HN := Lib.hid (new_any (some ⟨w1.heap.size, 0, none⟩) 1 1 [1] (w1.alloc (.cells #[.int .u8 1] 5)) rfl (rdn_one .u8 w1 1 5) (by omega))
  go_wp2_with fail
  refine HN.out.mono ?_
  rintro e w2 ⟨⟨g, A2, c2, rfl, hR2⟩, hb2⟩
  have hb2' := hbB.trans (hb2.mono hbB.size)
  go_wp2_with fail
  refine (take_any _ _ _ _ _ _ _ 2 _ hR2 (by simp) (by decide)).mono ?_
  rw [show takeS [1] 0 2 = (0, 3, 1) by decide]
  rintro e w3 ⟨⟨ev3, rfl, hE3, hR3⟩, hg3⟩
  obtain ⟨T3, u3, rfl⟩ := err_some hE3 (by simp)
  have hb3 : Below w1.heap.size w1 w3 := hb2'.trans (gb_low hg3 (by have := hR2.lo; have := hbB.size; omega) hb2'.size)
  have hR1' := hR1.below hb3
  have hbC : Below w3.heap.size w3 (w3.alloc (.cells #[.int .u8 0, .int .u8 1, .int .u8 1, .int .u8 2] 5)) := (Below.refl _ _).alloc (Nat.le_refl _) _
  have HS := Lib.hid (same_any A1 (some ⟨w3.heap.size, 0, none⟩) 4 c1 4 [0, 1, 1, 2] (w3.alloc (.cells #[.int .u8 0, .int .u8 1, .int .u8 1, .int .u8 2] 5)) rfl (hR1'.below hbC) (rdn_cells (k := .u8) (cs := #[.int .u8 0, .int .u8 1, .int .u8 1, .int .u8 2]) (T := 5) [0, 1, 1, 2] (by rw [heap_push]; simp) (by simp [numV])) (by omega))
  have HE3 := Lib.hid (hE3.below hbC)
  have hbw3 : Below w.heap.size w w3 := hb1'.trans (hb3.mono hb1'.size)
  have hbw4 := hbw3.trans (hbC.mono hbw3.size)
  clear hE3 hE1
  go_wp2_with fail
  refine HS.out.mono ?_
  rintro e w5 ⟨rfl, hb5⟩
  have hE5 := HE3.out.below hb5
  have hbw5 := hbw4.trans (hb5.mono hbw4.size)
  go_wp2_with fail
  refine (at_err _ _ _ _ hE5 (HE.out.below hbw5)).mono ?_
  rintro e w6 ⟨rfl, hb6⟩
  have hE6 := hE5.below hb6
  go_wp2_with fail
  refine (code_err _ _ _ _ hE6).mono ?_
  rintro e w7 ⟨rfl, rfl⟩
  go_wp2
  go_ret
  exact ⟨rfl, hbw5.trans (hb6.mono hbw5.size)⟩
end Go.Proofs.YtdbiigcabfnpfaaDoor

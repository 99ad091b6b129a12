/-
  catchboltlaw14.alive answers true. No conditions.
-/
import Derived.Test.YtlillhkgghcghaaNext
import Derived.Test.YtlillhkgghcghaaCode
import Derived.Deep.QuietTactic
import Derived.BigQuiet
namespace Go.Proofs.Ytlillhkgghcghaa
open Go.ChangeShapes Go.WideShapes Go.ChangeAt Go.RowKit

theorem bcell {W w1 : World} (hb : Below W.heap.size W w1) : (∀ b o, b < W.heap.size → w1.cell? ⟨b, o, none⟩ = W.cell? ⟨b, o, none⟩) ∧ (∀ b o, b < W.heap.size → w1.frozen? ⟨b, o, none⟩ = W.frozen? ⟨b, o, none⟩) :=
  ⟨fun b o h => hb.cell (p := ⟨b, o, none⟩) h, fun b o h => hb.frozen (p := ⟨b, o, none⟩) h⟩

theorem keep2 {W w2 : World} {x y : Value} {T : TypeId} (hb : Below (W.alloc (.cells #[x, y] T)).heap.size (W.alloc (.cells #[x, y] T)) w2) :
    w2.cell? ⟨W.heap.size, 0, none⟩ = some x ∧ w2.cell? ⟨W.heap.size, 1, none⟩ = some y ∧ w2.frozen? ⟨W.heap.size, 0, none⟩ = false ∧ w2.frozen? ⟨W.heap.size, 1, none⟩ = false ∧ W.heap.size < w2.heap.size := by
  obtain ⟨hc, hf⟩ := bcell hb
  have hz := hb.size
  simp at hz
  refine ⟨?_, ?_, ?_, ?_, by omega⟩
  · rw [hc _ _ (by simp)]; simp
  · rw [hc _ _ (by simp)]; simp
  · rw [hf _ _ (by simp)]; simp
  · rw [hf _ _ (by simp)]; simp

theorem next_12 (w : World) : Calls Try.prog 8 #[.int .i64 1, .int .i64 2] w fun r w' => r = .returned (.tuple #[.int .i64 2, .agg #[.int .i64 5, .int .i64 1], .nilIface]) ∧ Below w.heap.size w w' :=
  (next_any 1 2 w).mono fun _ _ h => h
theorem next_26 (w : World) : Calls Try.prog 8 #[.int .i64 2, .int .i64 6] w fun r w' => r = .returned (.tuple #[.int .i64 2, .agg #[.int .i64 0, .int .i64 0], .iface 38 (.int .i64 11)]) ∧ Below w.heap.size w w' :=
  (next_any 2 6 w).mono fun _ _ h => h

set_option maxHeartbeats 1000000 in
theorem alive_true (w : World) : Calls Try.prog 7 #[] w fun r w' => r = .returned (.bool true) ∧ Below w.heap.size w w' := by
  go_enter Try.func7, Try.ntmps7
  go_wp2_with fail
  refine (next_12 _).mono ?_
  rintro e w1 ⟨rfl, hb1⟩
  go_wp2_with fail
  refine (next_26 _).mono ?_
  rintro e w2 ⟨rfl, hb2⟩
  obtain ⟨c0, c1, f0, f1, hz⟩ := keep2 hb2
  go_wp2_with fail
  refine (code_errno _ _ (by omega) (by omega)).mono ?_
  rintro e w3 ⟨rfl, rfl⟩
  go_wp2_with fail
  go_returns
  refine ⟨rfl, ?_⟩
  have hs := hb1.size
  exact ((hb1.alloc hs _).trans (hb2.mono (by simp; omega))).alloc (by omega) _
end Go.Proofs.Ytlillhkgghcghaa

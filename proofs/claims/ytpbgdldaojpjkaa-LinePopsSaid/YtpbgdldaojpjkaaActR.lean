/-
  Rows of things that are done, as they lie in memory. No conditions.
-/
import Derived.Test.YtpbgdldaojpjkaaList
namespace Go.Proofs.Ytpbgdldaojpjkaa
open Go.ChangeShapes Go.WideShapes Go.ChangeAt Go.RowKit
set_option linter.unusedVariables false

/-- something that is done -/
structure Av where
  k : Int
  e : Wt
def Av.none : Av := ⟨0, Wt.none⟩
def RdA (w : World) (A : Option Addr) (es : List Av) : Prop :=
  ∃ g off, (0 < es.length → A = some ⟨g, off, none⟩ ∧ g < w.heap.size) ∧ ∀ i, i < es.length → w.cell? ⟨g, off + i * 5, none⟩ = some (.int .i64 (es.getD i Av.none).k) ∧ Cells4 w g (off + i * 5 + 1) (es.getD i Av.none).e
theorem RdA.below {w w1 : World} {A : Option Addr} {es : List Av} (h : RdA w A es) (hb : Below w.heap.size w w1) : RdA w1 A es := by
  obtain ⟨g, off, hA, hc⟩ := h
  exact ⟨g, off, fun hn => ⟨(hA hn).1, Nat.lt_of_lt_of_le (hA hn).2 hb.size⟩, fun i hi => ⟨(hb.cell (p := ⟨g, _, none⟩) (hA (by omega)).2).trans (hc i hi).1, (hc i hi).2.below hb (hA (by omega)).2⟩⟩
/-- what lies under B reads as before where all under B is as before -/
theorem RdA.under {w w1 : World} {B : Nat} {A : Option Addr} {es : List Av} (h : RdA w A es) (hB : w.heap.size ≤ B) (hs : w.heap.size ≤ w1.heap.size) {w2 : World} (hb1 : Below w.heap.size w w2) (hb : Below B w2 w1) : RdA w1 A es := by
  obtain ⟨g, off, hA, hc⟩ := h
  refine ⟨g, off, fun hn => ⟨(hA hn).1, Nat.lt_of_lt_of_le (hA hn).2 hs⟩, fun i hi => ?_⟩
  have hg := (hA (by omega)).2
  exact ⟨(hb.cell (p := ⟨g, _, none⟩) (show g < B by omega)).trans ((hb1.cell (p := ⟨g, _, none⟩) hg).trans (hc i hi).1), ((hc i hi).2.below hb1 hg).below hb (by omega)⟩

theorem Lot.all_length (l : Lot) : l.all.length = l.n := by simp [Lot.all, Lot.n]
end Go.Proofs.Ytpbgdldaojpjkaa

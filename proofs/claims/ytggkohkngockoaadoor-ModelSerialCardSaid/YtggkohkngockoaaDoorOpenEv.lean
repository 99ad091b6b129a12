/-
  An argument that is a slice of events, as RdE. No conditions.
-/
import Derived.Test.YtggkohkngockoaaDoorOpen
import Derived.Test.YtggkohkngockoaaDoorPEvs
namespace Go.Proofs.YtggkohkngockoaaDoor
open Go.ChangeShapes Go.WideShapes Go.ChangeAt Go.RowKit
set_option linter.unusedVariables false

theorem rde_nil (w : World) (A : Option Addr) : RdE w A [] := ⟨0, 0, fun h => by simp at h, fun i h => by simp at h⟩
def IsEvs (w : World) (a : Option Addr) (len cap : Nat) : Prop := ∃ es, es.length = len ∧ len ≤ cap ∧ RdE w a es ∧ ∀ i, i < len → (es.getD i Ev.none).wf

theorem isEvs_of_trod {H : Type} {enc : TypeId × Value → H} {w : World} {base fuel : Nat} {spare : Nat → Bool} {held : Bool} {a : Option Addr} {len cap : Nat} {x : DataW H × List MemPlace}
    (h : DataW.trod enc Tryd.prog w base spare held fuel 22 [.slice a len cap] = some x) : IsEvs w a len cap := by
  have hC : Tryd.prog.cellsOf 43 = 7 := by kernel_rfl
  rcases open_rows Tryd.underlying22 (by rw [hC]; omega) h with h0 | ⟨g, off, l, c, hA, ⟨a', ha⟩, hlc, _, hi⟩
  · simp only [Value.slice.injEq] at h0
    obtain ⟨rfl, rfl, rfl⟩ := h0
    exact ⟨[], rfl, Nat.le_refl _, rde_nil w none, fun i hi => absurd hi (Nat.not_lt_zero _)⟩
  · simp only [Value.slice.injEq] at ha
    obtain ⟨rfl, rfl, rfl⟩ := ha
    rw [hC] at hi
    obtain ⟨es, hl, he⟩ := list_of Ev.none len (fun i E => Cells7 w g (off + i * 7) E ∧ E.wf) fun i hil => by
      obtain ⟨cs, n, y, hcl, hat, ht⟩ := hi i hil
      have hle : cs.length ≤ Tryd.prog.cellsOf 43 := by rw [hC, hcl]; exact Nat.le_refl _
      obtain ⟨z0, h0, u0⟩ := leaf_int [0] (T := 3) (o := 0) (by kernel_rfl) Tryd.underlying3 (by kernel_rfl) hle ht
      obtain ⟨z1, h1, u1⟩ := leaf_int [1] (T := 3) (o := 1) (by kernel_rfl) Tryd.underlying3 (by kernel_rfl) hle ht
      obtain ⟨z2, h2, u2⟩ := leaf_int [2] (T := 3) (o := 2) (by kernel_rfl) Tryd.underlying3 (by kernel_rfl) hle ht
      obtain ⟨z3, h3, u3⟩ := leaf_int [3, 0] (T := 3) (o := 3) (by kernel_rfl) Tryd.underlying3 (by kernel_rfl) hle ht
      obtain ⟨z4, h4, u4⟩ := leaf_int [3, 1] (T := 3) (o := 4) (by kernel_rfl) Tryd.underlying3 (by kernel_rfl) hle ht
      obtain ⟨z5, h5, u5⟩ := leaf_int [4] (T := 41) (o := 5) (by kernel_rfl) Tryd.underlying41 (by kernel_rfl) hle ht
      obtain ⟨z6, h6, u6⟩ := leaf_int [5] (T := 3) (o := 6) (by kernel_rfl) Tryd.underlying3 (by kernel_rfl) hle ht
      exact ⟨⟨z0, z1, z2, z3, z4, z5, z6⟩, ⟨(hat 0 (by omega)).trans h0, (hat 1 (by omega)).trans h1, (hat 2 (by omega)).trans h2, (hat 3 (by omega)).trans h3, (hat 4 (by omega)).trans h4, (hat 5 (by omega)).trans h5, (hat 6 (by omega)).trans h6⟩, ⟨u0, u1, u2, u3, u4, u5, u6⟩⟩
    refine ⟨es, hl, hlc, ⟨g, off, fun hn => ?_, fun i hil => (he i (by omega)).1⟩, fun i hil => (he i hil).2⟩
    obtain ⟨hv, hg⟩ := hA (by omega)
    simp only [Value.slice.injEq] at hv
    exact ⟨hv.1, hg⟩
end Go.Proofs.YtggkohkngockoaaDoor

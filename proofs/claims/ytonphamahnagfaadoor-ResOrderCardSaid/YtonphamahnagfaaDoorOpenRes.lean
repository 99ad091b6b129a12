/-
  An argument that is a slice of resources, as RdR0. No conditions.
-/
import Derived.Test.YtonphamahnagfaaDoorOpen
import Derived.Test.YtonphamahnagfaaDoorSortV
namespace Go.Proofs.YtonphamahnagfaaDoor
open Go.ChangeShapes Go.WideShapes Go.ChangeAt Go.RowKit
set_option linter.unusedVariables false

def IsRess (w : World) (a : Option Addr) (len cap : Nat) : Prop := ∃ rs, rs.length = len ∧ len ≤ cap ∧ RdR0 w.heap.size w a rs

theorem isRess_of_trod {H : Type} {enc : TypeId × Value → H} {w : World} {base fuel : Nat} {spare : Nat → Bool} {held : Bool} {a : Option Addr} {len cap : Nat} {x : DataW H × List MemPlace}
    (h : DataW.trod enc Tryd.prog w base spare held fuel 45 [.slice a len cap] = some x) : IsRess w a len cap := by
  have hC : Tryd.prog.cellsOf 24 = 2 := by kernel_rfl
  rcases open_rows Tryd.underlying45 (by rw [hC]; omega) h with h0 | ⟨g, off, l, c, hA, ⟨a', ha⟩, hlc, _, hi⟩
  · simp only [Value.slice.injEq] at h0
    obtain ⟨rfl, rfl, rfl⟩ := h0
    exact ⟨[], rfl, Nat.le_refl _, 0, 0, fun h => by simp at h, fun j hj => by simp at hj⟩
  · simp only [Value.slice.injEq] at ha
    obtain ⟨rfl, rfl, rfl⟩ := ha
    rw [hC] at hi
    obtain ⟨es, hl, he⟩ := list_of ((0, 0) : R2) len (fun i E => w.cell? ⟨g, off + i * 2, none⟩ = some (.int .i64 E.1) ∧ w.cell? ⟨g, off + i * 2 + 1, none⟩ = some (.int .i64 E.2)) fun i hil => by
      obtain ⟨cs, n, y, hcl, hat, ht⟩ := hi i hil
      have hle : cs.length ≤ Tryd.prog.cellsOf 24 := by rw [hC, hcl]; exact Nat.le_refl _
      obtain ⟨z0, h0, _⟩ := leaf_int [0] (T := 3) (o := 0) (by kernel_rfl) Tryd.underlying3 (by kernel_rfl) hle ht
      obtain ⟨z1, h1, _⟩ := leaf_int [1] (T := 3) (o := 1) (by kernel_rfl) Tryd.underlying3 (by kernel_rfl) hle ht
      exact ⟨(z0, z1), (hat 0 (by omega)).trans h0, (hat 1 (by omega)).trans h1⟩
    refine ⟨es, hl, hlc, g, off, fun hn => ?_, fun i hil => he i (by omega)⟩
    obtain ⟨hv, hg⟩ := hA (by omega)
    simp only [Value.slice.injEq] at hv
    exact ⟨hv.1, hg⟩
end Go.Proofs.YtonphamahnagfaaDoor

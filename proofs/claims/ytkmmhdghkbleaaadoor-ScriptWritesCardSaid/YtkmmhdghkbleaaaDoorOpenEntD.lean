/-
  An argument that is a slice of entries, as RdEo. No conditions.
-/
import Derived.Test.YtkmmhdghkbleaaaDoorOpen
import Derived.Test.YtkmmhdghkbleaaaDoorBackAD
namespace Go.Proofs.YtkmmhdghkbleaaaDoor
open Go.ChangeShapes Go.WideShapes Go.ChangeAt Go.RowKit
set_option linter.unusedVariables false

def IsEnts (w : World) (a : Option Addr) (len cap : Nat) : Prop := ∃ es, es.length = len ∧ len ≤ cap ∧ RdEo w a es

theorem isEnts_of_trod {H : Type} {enc : TypeId × Value → H} {w : World} {base fuel : Nat} {spare : Nat → Bool} {held : Bool} {a : Option Addr} {len cap : Nat} {x : DataW H × List MemPlace}
    (h : DataW.trod enc Tryd.prog w base spare held fuel 22 [.slice a len cap] = some x) : IsEnts w a len cap := by
  have hC : Tryd.prog.cellsOf 33 = 6 := by kernel_rfl
  rcases open_rows Tryd.underlying22 (by rw [hC]; omega) h with h0 | ⟨g, off, l, c, hA, ⟨a', ha⟩, hlc, _, hi⟩
  · simp only [Value.slice.injEq] at h0
    obtain ⟨rfl, rfl, rfl⟩ := h0
    exact ⟨[], rfl, Nat.le_refl _, rdeo_nil w none⟩
  · simp only [Value.slice.injEq] at ha
    obtain ⟨rfl, rfl, rfl⟩ := ha
    rw [hC] at hi
    obtain ⟨es, hl, he⟩ := list_of Ent.none len (fun i E => Cells6 w g (off + i * 6) E) fun i hil => by
      obtain ⟨cs, n, y, hcl, hat, ht⟩ := hi i hil
      have hle : cs.length ≤ Tryd.prog.cellsOf 33 := by rw [hC, hcl]; exact Nat.le_refl _
      obtain ⟨z0, h0, _⟩ := leaf_int [0] (T := 3) (o := 0) (by kernel_rfl) Tryd.underlying3 (by kernel_rfl) hle ht
      obtain ⟨z1, h1, _⟩ := leaf_int [1] (T := 3) (o := 1) (by kernel_rfl) Tryd.underlying3 (by kernel_rfl) hle ht
      obtain ⟨z2, h2, _⟩ := leaf_int [2, 0] (T := 3) (o := 2) (by kernel_rfl) Tryd.underlying3 (by kernel_rfl) hle ht
      obtain ⟨z3, h3, _⟩ := leaf_int [2, 1] (T := 3) (o := 3) (by kernel_rfl) Tryd.underlying3 (by kernel_rfl) hle ht
      obtain ⟨z4, h4, _⟩ := leaf_int [3] (T := 3) (o := 4) (by kernel_rfl) Tryd.underlying3 (by kernel_rfl) hle ht
      obtain ⟨z5, h5, _⟩ := leaf_int [4] (T := 3) (o := 5) (by kernel_rfl) Tryd.underlying3 (by kernel_rfl) hle ht
      exact ⟨⟨z0, z1, z2, z3, z4, z5⟩, (hat 0 (by omega)).trans h0, (hat 1 (by omega)).trans h1, (hat 2 (by omega)).trans h2, (hat 3 (by omega)).trans h3, (hat 4 (by omega)).trans h4, (hat 5 (by omega)).trans h5⟩
    refine ⟨es, hl, hlc, g, off, fun hn => ?_, fun i hil => he i (by omega)⟩
    obtain ⟨hv, hg⟩ := hA (by omega)
    simp only [Value.slice.injEq] at hv
    exact ⟨hv.1, hg⟩
end Go.Proofs.YtkmmhdghkbleaaaDoor

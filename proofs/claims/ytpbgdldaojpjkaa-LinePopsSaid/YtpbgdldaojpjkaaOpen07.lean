/-
  An argument that is a slice of things done, or of those that wait. No conditions.
-/
import Derived.Test.YtpbgdldaojpjkaaOpen
import Derived.Test.YtpbgdldaojpjkaaActR
namespace Go.Proofs.Ytpbgdldaojpjkaa
open Go.ChangeShapes Go.WideShapes Go.ChangeAt Go.RowKit
set_option linter.unusedVariables false

def IsActs (w : World) (a : Option Addr) (len cap : Nat) : Prop := ∃ es, es.length = len ∧ RdA w a es
def IsWaits (w : World) (a : Option Addr) (len cap : Nat) : Prop := ∃ es, es.length = len ∧ RdW w a es

theorem isActs_of_trod {H : Type} {enc : TypeId × Value → H} {w : World} {base fuel : Nat} {spare : Nat → Bool} {held : Bool} {a : Option Addr} {len cap : Nat} {x : DataW H × List MemPlace}
    (h : DataW.trod enc Try.prog w base spare held fuel 22 [.slice a len cap] = some x) : IsActs w a len cap := by
  have hC : Try.prog.cellsOf 35 = 5 := by kernel_rfl
  rcases open_rows Try.underlying22 (by rw [hC]; omega) h with h0 | ⟨g, off, l, c, hA, ⟨a', ha⟩, hlc, _, hi⟩
  · simp only [Value.slice.injEq] at h0
    obtain ⟨rfl, rfl, rfl⟩ := h0
    exact ⟨[], rfl, 0, 0, fun hn => by simp at hn, fun i hn => by simp at hn⟩
  · simp only [Value.slice.injEq] at ha
    obtain ⟨rfl, rfl, rfl⟩ := ha
    rw [hC] at hi
    obtain ⟨es, hl, he⟩ := list_of Av.none len (fun i E => w.cell? ⟨g, off + i * 5, none⟩ = some (.int .i64 E.k) ∧ Cells4 w g (off + i * 5 + 1) E.e) fun i hil => by
      obtain ⟨cs, n, y, hcl, hat, ht⟩ := hi i (by omega)
      have hle : cs.length ≤ Try.prog.cellsOf 35 := by rw [hC, hcl]; exact Nat.le_refl _
      obtain ⟨z0, h0, _⟩ := leaf_int [0] (T := 3) (o := 0) (by kernel_rfl) Try.underlying3 (by kernel_rfl) hle ht
      obtain ⟨z1, h1, _⟩ := leaf_int [1, 0] (T := 3) (o := 1) (by kernel_rfl) Try.underlying3 (by kernel_rfl) hle ht
      obtain ⟨z2, h2, _⟩ := leaf_int [1, 1] (T := 3) (o := 2) (by kernel_rfl) Try.underlying3 (by kernel_rfl) hle ht
      obtain ⟨z3, h3, _⟩ := leaf_int [1, 2] (T := 31) (o := 3) (by kernel_rfl) Try.underlying31 (by kernel_rfl) hle ht
      obtain ⟨z4, h4⟩ := leaf_bool [1, 3] (T := 4) (o := 4) (by kernel_rfl) Try.underlying4 (by kernel_rfl) hle ht
      exact ⟨⟨z0, z1, z2, z3, z4⟩, (hat 0 (by omega)).trans h0, (hat 1 (by omega)).trans h1, (hat 2 (by omega)).trans h2, (hat 3 (by omega)).trans h3, (hat 4 (by omega)).trans h4⟩
    refine ⟨es, hl, g, off, fun hn => ?_, fun i hil => he i (by omega)⟩
    obtain ⟨hv, hg⟩ := hA (by omega)
    simp only [Value.slice.injEq] at hv
    exact ⟨hv.1, hg⟩

theorem isWaits_of_trod {H : Type} {enc : TypeId × Value → H} {w : World} {base fuel : Nat} {spare : Nat → Bool} {held : Bool} {a : Option Addr} {len cap : Nat} {x : DataW H × List MemPlace}
    (h : DataW.trod enc Try.prog w base spare held fuel 30 [.slice a len cap] = some x) : IsWaits w a len cap := by
  have hC : Try.prog.cellsOf 33 = 4 := by kernel_rfl
  rcases open_rows Try.underlying30 (by rw [hC]; omega) h with h0 | ⟨g, off, l, c, hA, ⟨a', ha⟩, hlc, _, hi⟩
  · simp only [Value.slice.injEq] at h0
    obtain ⟨rfl, rfl, rfl⟩ := h0
    exact ⟨[], rfl, rdw_nil w none⟩
  · simp only [Value.slice.injEq] at ha
    obtain ⟨rfl, rfl, rfl⟩ := ha
    rw [hC] at hi
    obtain ⟨es, hl, he⟩ := list_of Wt.none len (fun i E => Cells4 w g (off + i * 4) E) fun i hil => by
      obtain ⟨cs, n, y, hcl, hat, ht⟩ := hi i (by omega)
      have hle : cs.length ≤ Try.prog.cellsOf 33 := by rw [hC, hcl]; exact Nat.le_refl _
      obtain ⟨z1, h1, _⟩ := leaf_int [0] (T := 3) (o := 0) (by kernel_rfl) Try.underlying3 (by kernel_rfl) hle ht
      obtain ⟨z2, h2, _⟩ := leaf_int [1] (T := 3) (o := 1) (by kernel_rfl) Try.underlying3 (by kernel_rfl) hle ht
      obtain ⟨z3, h3, _⟩ := leaf_int [2] (T := 31) (o := 2) (by kernel_rfl) Try.underlying31 (by kernel_rfl) hle ht
      obtain ⟨z4, h4⟩ := leaf_bool [3] (T := 4) (o := 3) (by kernel_rfl) Try.underlying4 (by kernel_rfl) hle ht
      exact ⟨⟨z1, z2, z3, z4⟩, (hat 0 (by omega)).trans h1, (hat 1 (by omega)).trans h2, (hat 2 (by omega)).trans h3, (hat 3 (by omega)).trans h4⟩
    refine ⟨es, hl, g, off, fun hn => ?_, fun i hil => he i (by omega)⟩
    obtain ⟨hv, hg⟩ := hA (by omega)
    simp only [Value.slice.injEq] at hv
    exact ⟨hv.1, hg⟩
end Go.Proofs.Ytpbgdldaojpjkaa

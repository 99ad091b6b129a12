/-
  ScriptReads beyond five thousand bytes; a slice of bytes that came in, as RdB.
-/
import Derived.Test.YtkmmhdghkbleaaaDoorReadsD
namespace Go.Proofs.YtkmmhdghkbleaaaDoor
open Go.ChangeShapes Go.WideShapes Go.ChangeAt Go.RowKit
set_option linter.unusedVariables false

theorem rdb_nil (w : World) : RdB w none 0 [] := ⟨rfl, fun i => by simp, 0, 0, fun h => by omega, fun i h => by omega⟩

theorem rdb_row {w : World} {x : Addr} {len cap : Nat} {zs : List Int} (hlc : len ≤ cap) (hz : zs.length = cap) (hcell : ∀ i, i < zs.length → w.cell? (x.add i) = some (.int .u8 (zs.getD i 0))) (hwz : ∀ n ∈ zs, (Lit.int .u8 n).wf = true) :
    RdB w (some x) len (zs.take len) := by
  have hg : ∀ i, i < len → (zs.take len).getD i 0 = zs.getD i 0 := fun i hi => by
    rw [List.getD_eq_getElem?_getD, List.getD_eq_getElem?_getD, List.getElem?_take_of_lt hi]
  have hw : ∀ i, 0 ≤ (zs.take len).getD i 0 ∧ (zs.take len).getD i 0 ≤ 255 := fun i => by
    have h := range_u8 (zs := zs.take len) (fun n hn => hwz n (List.mem_of_mem_take hn)) i
    rw [List.getD_eq_getElem?_getD]; exact h
  rcases Nat.eq_zero_or_pos len with h0 | h0
  · subst h0
    exact ⟨by simp, hw, 0, 0, fun h => by omega, fun i h => by omega⟩
  · obtain ⟨b, off, rfl, hc⟩ := ints_at hcell (by omega)
    refine ⟨by rw [List.length_take]; omega, hw, b, off, fun _ => ⟨rfl, lt_of_cell (hc 0 (by omega))⟩, fun i hi => ?_⟩
    rw [hg i hi]; exact hc i (by omega)

end Go.Proofs.YtkmmhdghkbleaaaDoor

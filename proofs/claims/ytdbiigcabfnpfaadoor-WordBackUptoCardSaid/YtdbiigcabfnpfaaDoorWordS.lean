/-
  Facts of rows that came in; of what is taken, what is put. No conditions.
-/
import Derived.Test.YtdbiigcabfnpfaaDoorWordA
namespace Go.Proofs.YtdbiigcabfnpfaaDoor
open Go.ChangeShapes Go.WideShapes Go.ChangeAt Go.RowKit
set_option linter.unusedVariables false

theorem rdn_row {k : IntKind} {w : World} {x : Addr} {len cap : Nat} {zs : List Int} (hlc : len ≤ cap) (hz : zs.length = cap) (hcell : ∀ i, i < zs.length → w.cell? (x.add i) = some (.int k (zs.getD i 0))) :
    RdN k w (some x) (zs.take len) ∧ (zs.take len).length = len := by
  have hl : (zs.take len).length = len := by rw [List.length_take]; omega
  refine ⟨?_, hl⟩
  rcases Nat.eq_zero_or_pos len with h0 | h0
  · subst h0; rw [List.take_zero]; exact rdn_nil _ _ _
  · obtain ⟨b, off, rfl, hc⟩ := ints_at hcell (by omega)
    refine ⟨b, off, fun _ => ⟨rfl, lt_of_cell (hc 0 (by omega))⟩, fun i hi => ?_⟩
    have hg : (zs.take len).getD i 0 = zs.getD i 0 := by
      rw [List.getD_eq_getElem?_getD, List.getD_eq_getElem?_getD, List.getElem?_take_of_lt (by omega)]
    rw [hg]; exact hc i (by omega)
theorem wf_u8 {z : Int} (h : (Lit.int .u8 z).wf = true) : 0 ≤ z ∧ z < 256 := by
  have := range_u8 (zs := [z]) (by simpa using h) 0
  simp at this
  omega
theorem wf_i64' {z : Int} (h : (Lit.int .i64 z).wf = true) : -9223372036854775808 ≤ z ∧ z ≤ 9223372036854775807 := by
  simp only [Lit.wf, Bool.and_eq_true, decide_eq_true_eq] at h
  exact h
end Go.Proofs.YtdbiigcabfnpfaaDoor

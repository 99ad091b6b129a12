/-
  Arguments that are structs or arrays of numbers: their values, opened. No conditions.
-/
import Derived.Test.YtonphamahnagfaaDoorProg
import Derived.ChangeShapes
import Derived.WideShapes
namespace Go.Proofs.YtonphamahnagfaaDoor
open Go.ChangeShapes Go.WideShapes
set_option linter.unusedVariables false

theorem arr2 {α : Type} {cs : Array α} (h : cs.size = 2) : ∃ c0 c1, cs = #[c0, c1] := by
  obtain ⟨l⟩ := cs
  match l, h with
  | [c0, c1], _ => exact ⟨c0, c1, rfl⟩
theorem arr7 {α : Type} {cs : Array α} (h : cs.size = 7) : ∃ c0 c1 c2 c3 c4 c5 c6, cs = #[c0, c1, c2, c3, c4, c5, c6] := by
  obtain ⟨l⟩ := cs
  match l, h with
  | [c0, c1, c2, c3, c4, c5, c6], _ => exact ⟨c0, c1, c2, c3, c4, c5, c6, rfl⟩
theorem arr6 {α : Type} {cs : Array α} (h : cs.size = 6) : ∃ c0 c1 c2 c3 c4 c5, cs = #[c0, c1, c2, c3, c4, c5] := by
  obtain ⟨l⟩ := cs
  match l, h with
  | [c0, c1, c2, c3, c4, c5], _ => exact ⟨c0, c1, c2, c3, c4, c5, rfl⟩

section
variable {P : Program} {w : World} {r : Reach} {b : Nat} {t : TypeId} {v : Value}
theorem okWide_fields {fs : Array Field} {ts : List TypeId} (ht : P.underlying t = some (.struct fs)) (hc : P.cellTypes P.depth t = some ts) (hn : ts.length = P.cellsOf t) (h : Value.okWide P w r b t v) :
    ∃ cs, v = .agg cs ∧ cs.size = P.cellsOf t ∧ ∀ (i : Nat) (x : Value) (u : TypeId), cs[i]? = some x → ts[i]? = some u → Cell.okWide P w r b u x := by
  simp only [Value.okWide, ht] at h
  obtain ⟨cs, h1, h2, ts', h3, _, h5⟩ := h
  rw [hc] at h3
  obtain rfl := Option.some.inj h3
  refine ⟨cs, h1, h2, fun i x u hx hu => ?_⟩
  obtain ⟨u', hu', hw⟩ := h5 i x hx
  have hi : i < ts.length := by
    rcases Nat.lt_or_ge i ts.length with h' | h'
    · exact h'
    · rw [List.getElem?_eq_none h'] at hu; cases hu
  rw [Nat.mod_eq_of_lt hi, hu] at hu'
  obtain rfl := Option.some.inj hu'
  exact hw
theorem okWide_elems {n : Nat} {e : TypeId} {ts : List TypeId} (ht : P.underlying t = some (.array n e)) (hc : P.cellTypes P.depth t = some ts) (hn : ts.length = P.cellsOf t) (h : Value.okWide P w r b t v) :
    ∃ cs, v = .agg cs ∧ cs.size = P.cellsOf t ∧ ∀ (i : Nat) (x : Value) (u : TypeId), cs[i]? = some x → ts[i]? = some u → Cell.okWide P w r b u x := by
  simp only [Value.okWide, ht] at h
  obtain ⟨cs, h1, h2, ts', h3, _, h5⟩ := h
  rw [hc] at h3
  obtain rfl := Option.some.inj h3
  refine ⟨cs, h1, h2, fun i x u hx hu => ?_⟩
  obtain ⟨u', hu', hw⟩ := h5 i x hx
  have hi : i < ts.length := by
    rcases Nat.lt_or_ge i ts.length with h' | h'
    · exact h'
    · rw [List.getElem?_eq_none h'] at hu; cases hu
  rw [Nat.mod_eq_of_lt hi, hu] at hu'
  obtain rfl := Option.some.inj hu'
  exact hw
theorem cell_int {k : IntKind} (ht : P.underlying t = some (.int k)) (h : Cell.okWide P w r b t v) : ∃ n, v = .int k n ∧ (Lit.int k n).wf = true := by
  simp only [Cell.okWide, ht] at h
  cases v <;> simp_all [Cell.ok, Lit.wf, IntKind.has]
end
end Go.Proofs.YtonphamahnagfaaDoor

/-
  The entries of bytes, in plain terms.
-/
import Derived.Test.YtkmmhdghkbleaaaDoorEntF
namespace Go.Proofs.YtkmmhdghkbleaaaDoor

def entAt (bs : List Int) (j : Nat) : Ent := rdF (bs.getD (5 * j) 0) (bs.getD (5 * j + 1) 0) (bs.getD (5 * j + 2) 0) (bs.getD (5 * j + 3) 0) (bs.getD (5 * j + 4) 0)
def upto (bs : List Int) (k : Nat) : List Ent := (List.range k).map (entAt bs)
def parsed (bs : List Int) : List Ent := upto bs (bs.length / 5) ++ if bs.length % 5 = 0 then [] else [Ent.none]
def flat (es : List Ent) : List Value := es.flatMap Ent.cells

theorem upto_succ (bs : List Int) (k : Nat) : upto bs (k + 1) = upto bs k ++ [entAt bs k] := by simp [upto, List.range_succ]
theorem upto_length (bs : List Int) (k : Nat) : (upto bs k).length = k := by simp [upto]
theorem flat_append (a b : List Ent) : flat (a ++ b) = flat a ++ flat b := by simp [flat]
theorem flat_one (e : Ent) : flat [e] = e.cells := by simp [flat]
theorem flat_length (es : List Ent) : (flat es).length = es.length * 6 := by
  induction es with
  | nil => rfl
  | cons e r ih => rw [show flat (e :: r) = e.cells ++ flat r from rfl, List.length_append, ih]; simp [Ent.cells]; omega
theorem flat_snoc (es : List Ent) (e : Ent) : flat (es ++ [e]) = flat es ++ e.cells := by rw [flat_append, flat_one]
theorem cells_one (e : Ent) : ∀ u ∈ e.cells, u.oneCell' = true := by simp [Ent.cells, Value.oneCell']
theorem parsed_length (bs : List Int) : (parsed bs).length = (bs.length + 4) / 5 := by
  unfold parsed
  rw [List.length_append, upto_length]
  by_cases h : bs.length % 5 = 0
  · rw [if_pos h]; simp; omega
  · rw [if_neg h]; simp; omega
end Go.Proofs.YtkmmhdghkbleaaaDoor

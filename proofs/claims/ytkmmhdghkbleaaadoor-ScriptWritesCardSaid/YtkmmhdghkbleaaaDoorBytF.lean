/-
  catchboltref19.Bytes, plain: an entry in range is the entry of its own bytes just if it may be. No conditions.
-/
import Derived.Test.YtkmmhdghkbleaaaDoorBackF
import Derived.WalkKit
import Derived.ProofKit
import Derived.OpenShut
namespace Go.Proofs.YtkmmhdghkbleaaaDoor
open Go.ChangeShapes Go.WideShapes Go.ChangeAt Go.RowKit
set_option linter.unusedVariables false

/-- are the entry's numbers those of bytes? -/
def Ent.inR (e : Ent) : Bool := decide (0 ≤ e.k) && decide (e.k ≤ 9) && decide (0 ≤ e.c) && decide (e.c ≤ 255) && decide (0 ≤ e.t) && decide (e.t ≤ 255) && decide (0 ≤ e.r) && decide (e.r ≤ 255) && decide (0 ≤ e.m) && decide (e.m ≤ 255) && decide (0 ≤ e.p) && decide (e.p ≤ 16777215)
theorem inR_iff {e : Ent} : e.inR = true ↔ (0 ≤ e.k ∧ e.k ≤ 9) ∧ (0 ≤ e.c ∧ e.c ≤ 255) ∧ (0 ≤ e.t ∧ e.t ≤ 255) ∧ (0 ≤ e.r ∧ e.r ≤ 255) ∧ (0 ≤ e.m ∧ e.m ≤ 255) ∧ 0 ≤ e.p ∧ e.p ≤ 16777215 := by
  unfold Ent.inR
  simp only [Bool.and_eq_true, decide_eq_true_eq]
  omega
theorem ok_inR {e : Ent} (h : e.ok = true) : e.inR = true := by
  have hc := ok_cases (k := e.k) (c := e.c) (t := e.t) (r := e.r) (m := e.m) (p := e.p) h
  rw [inR_iff]
  omega
theorem wr_rangeR {e : Ent} (h : e.inR = true) : ∀ i, 0 ≤ e.wr.getD i 0 ∧ e.wr.getD i 0 ≤ 255 := by
  obtain ⟨h1, h2, h3, h4, h5, h6⟩ := inR_iff.1 h
  intro i
  unfold Ent.wr
  split
  · match i with
    | 0 => simp; omega
    | 1 => simp; omega
    | 2 => simp; omega
    | 3 => simp; omega
    | 4 => simp
    | i + 5 => simp
  · match i with
    | 0 => simp; omega
    | 1 => simp; omega
    | 2 => simp; omega
    | 3 => simp; omega
    | 4 => simp; omega
    | i + 5 => simp
theorem rdF_eq_ok {e : Ent} (h : e.inR = true) (he : rdF (e.wr.getD 0 0) (e.wr.getD 1 0) (e.wr.getD 2 0) (e.wr.getD 3 0) (e.wr.getD 4 0) = e) : e.ok = true := by
  have := rdF_ok (e.wr.getD 0 0) (e.wr.getD 1 0) (e.wr.getD 2 0) (e.wr.getD 3 0) (e.wr.getD 4 0) (wr_rangeR h 1) (wr_rangeR h 2) (wr_rangeR h 3)
  rwa [he] at this
theorem rdF_ok_eq {e : Ent} (h : e.ok = true) : rdF (e.wr.getD 0 0) (e.wr.getD 1 0) (e.wr.getD 2 0) (e.wr.getD 3 0) (e.wr.getD 4 0) = e := by
  have := rd_wr h
  unfold entAt at this
  simpa using this
end Go.Proofs.YtkmmhdghkbleaaaDoor

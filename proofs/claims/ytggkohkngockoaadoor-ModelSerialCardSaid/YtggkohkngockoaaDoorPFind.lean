/-
  model: a transaction of a number; a transaction is over. No conditions.
-/
import Derived.Test.YtggkohkngockoaaDoorPlayM
import Derived.BigQuiet
import Derived.BigRegion
import Derived.Deep.QuietTactic
namespace Go.Proofs.YtggkohkngockoaaDoor
open Go.ChangeShapes Go.WideShapes Go.ChangeAt Go.RowKit Go.Maps
set_option linter.unusedVariables false

theorem below_drewN {B : Nat} {a w : World} (h : Below B a w) : ∀ n, Below B a (w.drewN n)
  | n => ⟨h.os, h.tape, h.output, h.size, h.block⟩

theorem find_out (g : Nat) (A : Option Addr) (n c : Nat) (x : Int) (w : World) (h0 : w.cell? ⟨g, 0, none⟩ = some (.slice A n c)) (hx : (n : Int) < x) :
    Calls Tryd.prog 36 #[.pointer (some ⟨g, 0, none⟩), .int .i64 x] w fun e w' => e = .returned (.tuple #[.pointer none, .bool false]) ∧ Below w.heap.size w w' := by
  go_enter Tryd.func36, Tryd.ntmps36
  go_wp2
  go_ret2
  exact ⟨rfl, by go_grown⟩
theorem find_in (g a n c i b : Nat) (st : Int) (w : World) (h0 : w.cell? ⟨g, 0, none⟩ = some (.slice (some ⟨a, 0, none⟩) n c)) (hn : n ≤ 100000) (hi : i < n) (h1 : w.cell? ⟨a, i, none⟩ = some (.pointer (some ⟨b, 0, none⟩))) (h2 : w.cell? ⟨b, 0, none⟩ = some (.int .i64 st)) :
    Calls Tryd.prog 36 #[.pointer (some ⟨g, 0, none⟩), .int .i64 (i + 1)] w fun e w' => e = .returned (.tuple #[.pointer (some ⟨b, 0, none⟩), .bool (decide (st ≠ 3))]) ∧ Below w.heap.size w w' := by
  have k1 : ¬ (n : Int) < (i : Int) + 1 := by omega
  have k2 : (i : Int) < (n : Int) := by omega
  go_enter Tryd.func36, Tryd.ntmps36
  go_wp2
  go_quiet (fail)
  go_wp2
  go_ret2
  exact ⟨by by_cases h : st = 3 <;> simp [h], by first | exact below_drewN (Below.refl _ _) _ | go_grown⟩
theorem over_any (g b c : Nat) (v0 v1 : Value) (w : World) (hc : c ≤ 8) (h1 : w.cell? ⟨b, 1, none⟩ = some (.int .i64 c)) (h0 : w.cell? ⟨b, 0, none⟩ = some v0) (hg : w.cell? ⟨g, 10 + c, none⟩ = some v1) (hf : ∀ j, w.frozen? ⟨b, j, none⟩ = false) (hfg : ∀ j, w.frozen? ⟨g, j, none⟩ = false) (hne : b ≠ g) :
    Calls Tryd.prog 51 #[.pointer (some ⟨g, 0, none⟩), .pointer (some ⟨b, 0, none⟩)] w fun e w' => e = .returned (.tuple #[]) ∧ w'.heap = ((w.setCell ⟨b, 0, none⟩ (.int .i64 3)).setCell ⟨g, 10 + c, none⟩ (.pointer none)).heap ∧ Below 0 w w' := by
  have k2 : (c : Int) < 9 := by omega
  have k3 : ¬ (c : Int) < 0 := by omega
  have hne' : g ≠ b := fun h => hne h.symm
  go_enter Tryd.func51, Tryd.ntmps51
  go_wp2
  go_region
  refine ⟨rfl, .tuple #[], by simp [results, Tryd.results51, go_sem] <;> rfl, rfl, rfl, ⟨rfl, rfl, rfl, by simp, fun k hk => absurd hk (Nat.not_lt_zero _)⟩⟩
end Go.Proofs.YtggkohkngockoaaDoor

/-
  A line in memory, its two rows, and what of the memory is not the line's. No conditions.
-/
import Derived.Test.YtpbgdldaojpjkaaLineS
import Derived.OneCell
namespace Go.Proofs.Ytpbgdldaojpjkaa
open Go.ChangeShapes Go.WideShapes Go.ChangeAt Go.RowKit
set_option linter.unusedVariables false

def errV (k : Int) : Value := if k = 0 then .nilIface else .iface 55 (.int .i64 k)

/-- a line lies at block g, its rows at B or above; no block of S is the line's -/
def LineX (w : World) (B g : Nat) (lim : Int) (l : Lot) (S : Nat → Prop) : Prop :=
  ∃ v0 v1, w.heap[g]? = some (.cells #[.int .i64 lim, v0, v1] 58 (0, 0)) ∧ B ≤ g ∧ w.ownsRow B 33 4 v0 l.a.length (flatW l.a) ∧ w.ownsRow B 33 4 v1 l.b.length (flatW l.b) ∧
    v0.ownBlock ≠ some g ∧ v1.ownBlock ≠ some g ∧ (∀ k, v0.ownBlock = some k → v1.ownBlock ≠ some k) ∧ ∀ k, S k → k < w.heap.size ∧ k ≠ g ∧ v0.ownBlock ≠ some k ∧ v1.ownBlock ≠ some k

theorem LineX.below {w w' : World} {B g : Nat} {lim : Int} {l : Lot} {S : Nat → Prop} (h : LineX w B g lim l S) (hb : Below w.heap.size w w') : LineX w' B g lim l S := by
  obtain ⟨v0, v1, hg, hB, o0, o1, n0, n1, n2, hS⟩ := h
  exact ⟨v0, v1, (hb.block g (Array.getElem?_eq_some_iff.1 hg).1).trans hg, hB, own_below o0 hb, own_below o1 hb, n0, n1, n2, fun k hk => ⟨Nat.lt_of_lt_of_le (hS k hk).1 hb.size, (hS k hk).2⟩⟩
/-- new blocks are not the line's -/
theorem LineX.more {w w' : World} {B g : Nat} {lim : Int} {l : Lot} {S : Nat → Prop} (h : LineX w B g lim l S) (hb : Below w.heap.size w w') (T : Nat → Prop) (hT : ∀ k, T k → S k ∨ (w.heap.size ≤ k ∧ k < w'.heap.size)) : LineX w' B g lim l T := by
  obtain ⟨v0, v1, hg, hB, o0, o1, n0, n1, n2, hS⟩ := h
  have hgl := (Array.getElem?_eq_some_iff.1 hg).1
  refine ⟨v0, v1, (hb.block g hgl).trans hg, hB, own_below o0 hb, own_below o1 hb, n0, n1, n2, fun k hk => ?_⟩
  rcases hT k hk with h | ⟨h1, h2⟩
  · exact ⟨Nat.lt_of_lt_of_le (hS k h).1 hb.size, (hS k h).2⟩
  · refine ⟨h2, by omega, fun e => ?_, fun e => ?_⟩
    · have := (o0.lt k e).2; omega
    · have := (o1.lt k e).2; omega
theorem LineX.sub {w : World} {B g : Nat} {lim : Int} {l : Lot} {S : Nat → Prop} (h : LineX w B g lim l S) (T : Nat → Prop) (hT : ∀ k, T k → S k) : LineX w B g lim l T := by
  obtain ⟨v0, v1, hg, hB, o0, o1, n0, n1, n2, hS⟩ := h
  exact ⟨v0, v1, hg, hB, o0, o1, n0, n1, n2, fun k hk => hS k (hT k hk)⟩
theorem LineX.kept {w w' : World} {B g : Nat} {lim : Int} {l : Lot} {S : Nat → Prop} (h : LineX w B g lim l S) (hb : Below w.heap.size w w') : ∀ k, S k → w'.heap[k]? = w.heap[k]? := by
  obtain ⟨v0, v1, hg, hB, o0, o1, n0, n1, n2, hS⟩ := h
  exact fun k hk => hb.block k (hS k hk).1

/-- the line's cells, and its rows read -/
theorem LineX.at {w : World} {B g : Nat} {lim : Int} {l : Lot} {S : Nat → Prop} (h : LineX w B g lim l S) : B ≤ g ∧ ∃ A0 A1 c0 c1, LineAt w g lim (.slice A0 l.a.length c0) (.slice A1 l.b.length c1) ∧ RdW w A0 l.a ∧ RdW w A1 l.b ∧ (A0 = none → l.a.length = 0) ∧ (A1 = none → l.b.length = 0) := by
  obtain ⟨v0, v1, hg, hB, o0, o1, n0, n1, n2, hS⟩ := h
  have hgl := (Array.getElem?_eq_some_iff.1 hg).1
  obtain ⟨_, A0, c0, rfl, hc0, r0⟩ := rdw_of_own o0
  obtain ⟨_, A1, c1, rfl, hc1, r1⟩ := rdw_of_own o1
  refine ⟨hB, A0, A1, c0, c1, ⟨hgl, ?_, ?_, ?_⟩, r0, r1, fun h => ?_, fun h => ?_⟩
  · simp [World.cell?, hg]
  · simp [World.cell?, hg]
  · simp [World.cell?, hg]
  · rcases Nat.eq_zero_or_pos l.a.length with h0 | h0
    · exact h0
    · obtain ⟨_, _, hA, _⟩ := r0
      rw [(hA h0).1] at h; cases h
  · rcases Nat.eq_zero_or_pos l.b.length with h0 | h0
    · exact h0
    · obtain ⟨_, _, hA, _⟩ := r1
      rw [(hA h0).1] at h; cases h

theorem own_stored {w : World} {B : Nat} {e : TypeId} {s n : Nat} {v : Value} {xs : List Value} (h : w.ownsRow B e s v n xs) {g j : Nat} (hg : v.ownBlock ≠ some g) (u : Value) : (w.setCell ⟨g, j, none⟩ u).ownsRow B e s v n xs :=
  ownsRow_setCell_other h hg u
end Go.Proofs.Ytpbgdldaojpjkaa

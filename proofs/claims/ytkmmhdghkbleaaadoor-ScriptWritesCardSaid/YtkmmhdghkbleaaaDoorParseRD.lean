/-
  The reference's Parse: it gives the entries of whatever bytes, up to a hundred thousand of them.
-/
import Derived.Test.YtkmmhdghkbleaaaDoorEntP
import Derived.Test.YtkmmhdghkbleaaaDoorParseF
import Derived.Laws.OwnMore
import Derived.Deep.AppendLies
import Derived.OwnWalk
import Derived.Deep.RegionHeld3
import Derived.Laws.Pointers
import Derived.LoopTactic
namespace Go.Proofs.YtkmmhdghkbleaaaDoor
open Go.ChangeShapes Go.WideShapes Go.ChangeAt Go.RowKit
set_option linter.unusedVariables false

theorem rent_info : (Tryd.prog.info? 33).map (fun i => (i.zero, i.size, i.bytes)) = some (some (.agg #[.int .i64 0, .int .i64 0, .int .i64 0, .int .i64 0, .int .i64 0, .int .i64 0]), 6, 48) := by kernel_rfl

theorem below_own {B : Nat} {w w1 : World} {e : TypeId} {s n : Nat} {v : Value} {xs : List Value} (h : w.ownsRow B e s v n xs) (hb : Below w.heap.size w w1) : w1.ownsRow B e s v n xs := by
  obtain ⟨hl, h⟩ := h
  refine ⟨hl, ?_⟩
  rcases h with h | ⟨g, cap, cur, hv, hg, hh, hr⟩
  · exact .inl h
  · refine .inr ⟨g, cap, cur, hv, hg, ?_, hr⟩
    rw [hb.block g ?_]; exact hh
    rcases Nat.lt_or_ge g w.heap.size with h' | h'
    · exact h'
    · rw [Array.getElem?_eq_none h'] at hh; cases hh

theorem one_eq (k a1 a2 a3 a4 ek ec et er em ep : Int) (w : World) (h : rdF k a1 a2 a3 a4 = ⟨ek, ec, et, er, em, ep⟩) (h0 : 0 ≤ k) (h0' : k ≤ 255) (h1 : 0 ≤ a1) (h1' : a1 ≤ 255) (h2 : 0 ≤ a2) (h2' : a2 ≤ 255) (h3 : 0 ≤ a3) (h3' : a3 ≤ 255) (h4 : 0 ≤ a4) (h4' : a4 ≤ 255) :
    Calls Tryd.prog 13 #[.int .i64 k, .int .i64 a1, .int .i64 a2, .int .i64 a3, .int .i64 a4] w fun e w' => e = .returned (.agg #[.int .i64 ek, .int .i64 ec, .int .i64 et, .int .i64 er, .int .i64 em, .int .i64 ep]) ∧ Below w.heap.size w w' :=
  (one_any k a1 a2 a3 a4 w h0 h0' h1 h1' h2 h2' h3 h3' h4 h4').mono fun e w' ⟨he, hb⟩ => ⟨by rw [he, h]; rfl, hb⟩

theorem own_base {w : World} {B : Nat} {e : TypeId} {s n : Nat} {v : Value} {xs : List Value} (h : w.ownsRow B e s v n xs) : ∀ k, v.ownBlock = some k → B ≤ k := by
  intro k hk
  rcases h.2 with ⟨rfl, _⟩ | ⟨g, cap, cur, rfl, hg, _⟩
  · simp [Value.ownBlock] at hk
  · simp [Value.ownBlock] at hk; omega
theorem own_ne {w : World} {B b : Nat} {e : TypeId} {s n : Nat} {v : Value} {xs : List Value} (h : w.ownsRow B e s v n xs) (hb : b < B) : v.ownBlock ≠ some b := by
  intro hk; have := own_base h _ hk; omega

end Go.Proofs.YtkmmhdghkbleaaaDoor

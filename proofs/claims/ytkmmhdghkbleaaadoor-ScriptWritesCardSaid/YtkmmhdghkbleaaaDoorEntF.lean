/-
  Resources and entries in plain terms: which may be, their bytes, the entry of five bytes.
-/
import Derived.WalkKit
namespace Go.Proofs.YtkmmhdghkbleaaaDoor

def resB (t r : Int) : Bool := decide (1 ≤ t ∧ t ≤ 250 ∧ 0 ≤ r ∧ r ≤ 250)

/-- what happens: kind, client, table, row, mode, pick -/
structure Ent where
  k : Int
  c : Int
  t : Int
  r : Int
  m : Int
  p : Int

def Ent.none : Ent := ⟨0, 0, 0, 0, 0, 0⟩
def Ent.cells (e : Ent) : List Value := [.int .i64 e.k, .int .i64 e.c, .int .i64 e.t, .int .i64 e.r, .int .i64 e.m, .int .i64 e.p]
def Ent.val (e : Ent) : Value := .agg #[.int .i64 e.k, .int .i64 e.c, .int .i64 e.t, .int .i64 e.r, .int .i64 e.m, .int .i64 e.p]

def entB (k c t r m p : Int) : Bool :=
  if k = 3 then decide ((1 ≤ t ∧ t ≤ 250 ∧ 0 ≤ r ∧ r ≤ 250) ∧ (1 ≤ m ∧ m ≤ 4) ∧ (1 ≤ c ∧ c ≤ 8) ∧ p = 0)
  else if k = 2 ∨ k = 4 ∨ k = 5 ∨ k = 6 then decide ((1 ≤ c ∧ c ≤ 8) ∧ t = 0 ∧ r = 0 ∧ m = 0 ∧ p = 0)
  else if k = 0 ∨ k = 1 then decide (c = 0 ∧ t = 0 ∧ r = 0 ∧ m = 0 ∧ p = 0)
  else if k = 7 ∨ k = 8 ∨ k = 9 then decide ((0 ≤ p ∧ p < 16777216) ∧ c = 0 ∧ t = 0 ∧ r = 0 ∧ m = 0)
  else false

/-- the entry of five bytes -/
def rdF (a b c d e : Int) : Ent :=
  if a = 1 ∧ b = 0 ∧ c = 0 ∧ d = 0 ∧ e = 0 then ⟨1, 0, 0, 0, 0, 0⟩
  else if (a = 2 ∨ a = 4 ∨ a = 5 ∨ a = 6) ∧ (1 ≤ b ∧ b ≤ 8) ∧ c = 0 ∧ d = 0 ∧ e = 0 then ⟨a, b, 0, 0, 0, 0⟩
  else if a = 3 ∧ (1 ≤ b ∧ b ≤ 8) ∧ (1 ≤ c ∧ c ≤ 250 ∧ 0 ≤ d ∧ d ≤ 250) ∧ (1 ≤ e ∧ e ≤ 4) then ⟨3, b, c, d, e, 0⟩
  else if (7 ≤ a ∧ a ≤ 9) ∧ e = 0 then ⟨a, 0, 0, 0, 0, 65536 * b + 256 * c + d⟩ else Ent.none
end Go.Proofs.YtkmmhdghkbleaaaDoor

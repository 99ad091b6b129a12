/-
  catchboltlaw02.ResOnly: unlike resources have unlike texts, and those of one table, and they alone, have texts that begin alike up to the dot: the plain laws. The condition: the listed variables read as the program's text lays them.
-/
import Derived.Test.YtonphamahnagfaaDoorResW
import Derived.BigRegion
namespace Go.Proofs.YtonphamahnagfaaDoor
open Go.ChangeShapes Go.WideShapes Go.ChangeAt Go.RowKit
set_option linter.unusedVariables false

theorem text_inj {t r t' r' : Nat} (ht : 1 ≤ t ∧ t ≤ 250) (hr : r ≤ 250) (ht' : 1 ≤ t' ∧ t' ≤ 250) (hr' : r' ≤ 250) (h : textL t r = textL t' r') : t = t' ∧ r = r' := by
  have a := readL_text ht hr h
  have b := readL_text ht' hr' rfl
  rw [a] at b
  simpa using b
theorem text_zero (t : Nat) : textL t 0 = digL t := by unfold textL; rw [if_pos rfl]
/-- unlike tables: the one's text doesn't go on with a dot behind the other one's -/
theorem no_dot {t r u : Nat} {k : List UInt8} (ht : 1 ≤ t ∧ t ≤ 250) (hr : r ≤ 250) (hu : 1 ≤ u ∧ u ≤ 250) (hne : u ≠ t) : textL t r ≠ textL u 0 ++ 46 :: k := by
  intro h
  rw [text_zero] at h
  have hn : nr 0 (digL u) = some u := by
    have := nr_dig (u - 1) (by omega)
    rwa [show u - 1 + 1 = u by omega] at this
  have h1 := run_dot hn hu.1 k
  rw [← h, run_text ht hr] at h1
  cases hk : nr 0 k with
  | none => rw [hk] at h1; cases h1
  | some m =>
    rw [hk] at h1
    by_cases h0 : r = 0
    · rw [if_pos h0] at h1; simp at h1
    · rw [if_neg h0] at h1
      simp at h1
      omega

theorem get_of {Y : ByteArray} {n : Nat} {c : UInt8} (h : n < Y.size) (hc : Y.data.toList[n]? = some c) : Y[n] = c := by
  rw [List.getElem?_eq_getElem (by simpa using h)] at hc
  have h1 := Option.some.inj hc
  rw [← h1]; simp; rfl
theorem of_get {Y : ByteArray} {n : Nat} {c : UInt8} (h : n < Y.size) (hc : Y[n] = c) : Y.data.toList[n]? = some c := by
  rw [List.getElem?_eq_getElem (by simpa using h), ← hc]; simp; rfl
theorem drop_at {l : List UInt8} {n : Nat} {c : UInt8} (h : l[n]? = some c) : l.drop n = c :: l.drop (n + 1) := by
  have hn : n < l.length := by
    rcases Nat.lt_or_ge n l.length with h' | h'
    · exact h'
    · rw [List.getElem?_eq_none h'] at h; cases h
  rw [List.drop_eq_getElem_cons hn]
  rw [List.getElem?_eq_getElem hn] at h
  rw [Option.some.inj h]

theorem i64_keep {n : Int} (h : -9223372036854775808 ≤ n ∧ n ≤ 9223372036854775807) : IntKind.i64.wrap n = n := by rw [IntKind.wrap_i64]; omega
end Go.Proofs.YtonphamahnagfaaDoor

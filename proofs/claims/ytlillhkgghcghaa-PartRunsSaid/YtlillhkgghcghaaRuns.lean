/-
  The walk of catchboltlaw14.PartRuns: it answers true at every input. No conditions.
-/
import Derived.Test.YtlillhkgghcghaaTable
import Derived.LoopTactic
import Derived.OpenShut
namespace Go.Proofs.Ytlillhkgghcghaa
open Go.ChangeShapes Go.WideShapes Go.ChangeAt Go.RowKit

theorem runs_end (v : Int) (a1 : Option Addr) (len cap : Nat) (w : World) (h : ¬ len ≤ 100) :
    Calls Try.prog 4 #[.int .u8 v, .slice a1 len cap] w fun r w' => r = .returned (.bool true) ∧ Below w.heap.size w w' := by
  have hl : (100 : Int) < len := by omega
  clear h
  go_enter Try.func4, Try.ntmps4
  go_wp2_with fail
  refine (alive_true _).mono ?_
  rintro r w1 ⟨rfl, hb1⟩
  go_wp2
  go_ret
  exact ⟨rfl, hb1⟩

set_option maxRecDepth 100000 in
set_option maxHeartbeats 8000000 in
theorem runs_row (v : Int) (b off len cap : Nat) (zs : List Int) (w : World) (h0 : 0 ≤ v) (h1 : v ≤ 255) (hlen : len ≤ 100) (hcap : len ≤ zs.length)
    (hcell : ∀ i, i < zs.length → w.cell? ⟨b, off + i, none⟩ = some (.int .u8 (zs.getD i 0))) (hwf : ∀ i, 0 ≤ zs.getD i 0 ∧ zs.getD i 0 ≤ 255) :
    Calls Try.prog 4 #[.int .u8 v, .slice (some ⟨b, off, none⟩) len cap] w fun r w' => r = .returned (.bool true) ∧ Below w.heap.size w w' := by
  have hl : (len : Int) ≤ 100 := by omega
  have HC := Lib.hid hcell
  have HW := Lib.hid hwf
  clear hcell hwf
  go_enter Try.func4, Try.ntmps4
  go_wp2_with fail
  refine (alive_true _).mono ?_
  rintro r w1 ⟨rfl, hb1⟩
  go_wp2
  go_loopw [5, 6] (fun s i wr => ∃ (n : Int) (k : Nat), 0 ≤ n ∧ n ≤ 5 ∧ k ≤ len ∧ s = .int .i64 n ∧ i = .int .i64 k ∧ Below w.heap.size w wr) (fun _ i _ => len - (intOf i).toNat)
  case atStart => exact ⟨_, 0, by omega, by omega, by omega, rfl, rfl, hb1⟩
  case round =>
    obtain ⟨n, k, hn0, hn5, hk, rfl, rfl, hb⟩ := hrel
    by_cases hlt : k < len
    · have hc := HC.out k (by omega)
      obtain ⟨hz0, hz1⟩ := HW.out k
      generalize zs.getD k 0 = z at hc hz0 hz1
      have hbl : b < w.heap.size := by
        rcases Nat.lt_or_ge b w.heap.size with h | h
        · exact h
        · simp [World.cell?, Array.getElem?_eq_none h] at hc
      have hcr : wr.cell? ⟨b, off + k, none⟩ = some (.int .u8 z) := by rw [hb.cell (p := ⟨b, off + k, none⟩) hbl]; exact hc
      clear hc
      have hlt' : (k : Int) < len := by omega
      obtain rfl | rfl | rfl | rfl | rfl | rfl : n = 0 ∨ n = 1 ∨ n = 2 ∨ n = 3 ∨ n = 4 ∨ n = 5 := by omega
      · obtain hm | hm | hm | hm | hm | hm : z % 6 = 0 ∨ z % 6 = 1 ∨ z % 6 = 2 ∨ z % 6 = 3 ∨ z % 6 = 4 ∨ z % 6 = 5 := by omega
        · go_wp2_with fail
          refine (next_ok 0 1 1 0 0 rfl _).mono ?_
          rintro r w2 ⟨rfl, hb2⟩
          go_wp2
          go_roundw
          case rel => exact ⟨1, k + 1, by omega, by omega, by omega, rfl, by go_num, (hb.trans (hb2.mono hb.size)).alloc (by have := hb.size; have := hb2.size; omega) _⟩
          case measure => simp [intOf]; omega
        · go_wp2_with fail
          refine (next_ok 0 2 0 5 0 rfl _).mono ?_
          rintro r w2 ⟨rfl, hb2⟩
          go_wp2
          go_roundw
          case rel => exact ⟨0, k + 1, by omega, by omega, by omega, rfl, by go_num, (hb.trans (hb2.mono hb.size)).alloc (by have := hb.size; have := hb2.size; omega) _⟩
          case measure => simp [intOf]; omega
        · go_wp2_with fail
          refine (next_ok 0 3 4 7 0 rfl _).mono ?_
          rintro r w2 ⟨rfl, hb2⟩
          go_wp2
          go_roundw
          case rel => exact ⟨4, k + 1, by omega, by omega, by omega, rfl, by go_num, (hb.trans (hb2.mono hb.size)).alloc (by have := hb.size; have := hb2.size; omega) _⟩
          case measure => simp [intOf]; omega
        · go_wp2_with fail
          refine (next_ok 0 4 5 7 0 rfl _).mono ?_
          rintro r w2 ⟨rfl, hb2⟩
          go_wp2
          go_roundw
          case rel => exact ⟨5, k + 1, by omega, by omega, by omega, rfl, by go_num, (hb.trans (hb2.mono hb.size)).alloc (by have := hb.size; have := hb2.size; omega) _⟩
          case measure => simp [intOf]; omega
        · go_wp2_with fail
          refine (next_ok 0 5 0 0 0 rfl _).mono ?_
          rintro r w2 ⟨rfl, hb2⟩
          go_wp2
          go_roundw
          case rel => exact ⟨0, k + 1, by omega, by omega, by omega, rfl, by go_num, (hb.trans (hb2.mono hb.size)).alloc (by have := hb.size; have := hb2.size; omega) _⟩
          case measure => simp [intOf]; omega
        · go_wp2_with fail
          refine (next_bad 0 6 0 0 0 11 rfl (by decide) _).mono ?_
          rintro r w2 ⟨rfl, hb2⟩
          go_wp2
          go_roundw
          case rel => exact ⟨0, k + 1, by omega, by omega, by omega, rfl, by go_num, (hb.trans (hb2.mono hb.size)).alloc (by have := hb.size; have := hb2.size; omega) _⟩
          case measure => simp [intOf]; omega
      · obtain hm | hm | hm | hm | hm | hm : z % 6 = 0 ∨ z % 6 = 1 ∨ z % 6 = 2 ∨ z % 6 = 3 ∨ z % 6 = 4 ∨ z % 6 = 5 := by omega
        · go_wp2_with fail
          refine (next_ok 1 1 1 0 0 rfl _).mono ?_
          rintro r w2 ⟨rfl, hb2⟩
          go_wp2
          go_roundw
          case rel => exact ⟨1, k + 1, by omega, by omega, by omega, rfl, by go_num, (hb.trans (hb2.mono hb.size)).alloc (by have := hb.size; have := hb2.size; omega) _⟩
          case measure => simp [intOf]; omega
        · go_wp2_with fail
          refine (next_ok 1 2 2 5 1 rfl _).mono ?_
          rintro r w2 ⟨rfl, hb2⟩
          go_wp2
          go_roundw
          case rel => exact ⟨2, k + 1, by omega, by omega, by omega, rfl, by go_num, (hb.trans (hb2.mono hb.size)).alloc (by have := hb.size; have := hb2.size; omega) _⟩
          case measure => simp [intOf]; omega
        · go_wp2_with fail
          refine (next_ok 1 3 4 7 0 rfl _).mono ?_
          rintro r w2 ⟨rfl, hb2⟩
          go_wp2
          go_roundw
          case rel => exact ⟨4, k + 1, by omega, by omega, by omega, rfl, by go_num, (hb.trans (hb2.mono hb.size)).alloc (by have := hb.size; have := hb2.size; omega) _⟩
          case measure => simp [intOf]; omega
        · go_wp2_with fail
          refine (next_ok 1 4 5 7 0 rfl _).mono ?_
          rintro r w2 ⟨rfl, hb2⟩
          go_wp2
          go_roundw
          case rel => exact ⟨5, k + 1, by omega, by omega, by omega, rfl, by go_num, (hb.trans (hb2.mono hb.size)).alloc (by have := hb.size; have := hb2.size; omega) _⟩
          case measure => simp [intOf]; omega
        · go_wp2_with fail
          refine (next_ok 1 5 1 0 0 rfl _).mono ?_
          rintro r w2 ⟨rfl, hb2⟩
          go_wp2
          go_roundw
          case rel => exact ⟨1, k + 1, by omega, by omega, by omega, rfl, by go_num, (hb.trans (hb2.mono hb.size)).alloc (by have := hb.size; have := hb2.size; omega) _⟩
          case measure => simp [intOf]; omega
        · go_wp2_with fail
          refine (next_ok 1 6 3 9 0 rfl _).mono ?_
          rintro r w2 ⟨rfl, hb2⟩
          go_wp2
          go_roundw
          case rel => exact ⟨3, k + 1, by omega, by omega, by omega, rfl, by go_num, (hb.trans (hb2.mono hb.size)).alloc (by have := hb.size; have := hb2.size; omega) _⟩
          case measure => simp [intOf]; omega
      · obtain hm | hm | hm | hm | hm | hm : z % 6 = 0 ∨ z % 6 = 1 ∨ z % 6 = 2 ∨ z % 6 = 3 ∨ z % 6 = 4 ∨ z % 6 = 5 := by omega
        · go_wp2_with fail
          refine (next_bad 2 1 2 0 0 11 rfl (by decide) _).mono ?_
          rintro r w2 ⟨rfl, hb2⟩
          go_wp2
          go_roundw
          case rel => exact ⟨2, k + 1, by omega, by omega, by omega, rfl, by go_num, (hb.trans (hb2.mono hb.size)).alloc (by have := hb.size; have := hb2.size; omega) _⟩
          case measure => simp [intOf]; omega
        · go_wp2_with fail
          refine (next_ok 2 2 2 5 1 rfl _).mono ?_
          rintro r w2 ⟨rfl, hb2⟩
          go_wp2
          go_roundw
          case rel => exact ⟨2, k + 1, by omega, by omega, by omega, rfl, by go_num, (hb.trans (hb2.mono hb.size)).alloc (by have := hb.size; have := hb2.size; omega) _⟩
          case measure => simp [intOf]; omega
        · go_wp2_with fail
          refine (next_ok 2 3 4 7 0 rfl _).mono ?_
          rintro r w2 ⟨rfl, hb2⟩
          go_wp2
          go_roundw
          case rel => exact ⟨4, k + 1, by omega, by omega, by omega, rfl, by go_num, (hb.trans (hb2.mono hb.size)).alloc (by have := hb.size; have := hb2.size; omega) _⟩
          case measure => simp [intOf]; omega
        · go_wp2_with fail
          refine (next_ok 2 4 5 7 0 rfl _).mono ?_
          rintro r w2 ⟨rfl, hb2⟩
          go_wp2
          go_roundw
          case rel => exact ⟨5, k + 1, by omega, by omega, by omega, rfl, by go_num, (hb.trans (hb2.mono hb.size)).alloc (by have := hb.size; have := hb2.size; omega) _⟩
          case measure => simp [intOf]; omega
        · go_wp2_with fail
          refine (next_ok 2 5 2 0 0 rfl _).mono ?_
          rintro r w2 ⟨rfl, hb2⟩
          go_wp2
          go_roundw
          case rel => exact ⟨2, k + 1, by omega, by omega, by omega, rfl, by go_num, (hb.trans (hb2.mono hb.size)).alloc (by have := hb.size; have := hb2.size; omega) _⟩
          case measure => simp [intOf]; omega
        · go_wp2_with fail
          refine (next_bad 2 6 2 0 0 11 rfl (by decide) _).mono ?_
          rintro r w2 ⟨rfl, hb2⟩
          go_wp2
          go_roundw
          case rel => exact ⟨2, k + 1, by omega, by omega, by omega, rfl, by go_num, (hb.trans (hb2.mono hb.size)).alloc (by have := hb.size; have := hb2.size; omega) _⟩
          case measure => simp [intOf]; omega
      · obtain hm | hm | hm | hm | hm | hm : z % 6 = 0 ∨ z % 6 = 1 ∨ z % 6 = 2 ∨ z % 6 = 3 ∨ z % 6 = 4 ∨ z % 6 = 5 := by omega
        · go_wp2_with fail
          refine (next_ok 3 1 3 9 0 rfl _).mono ?_
          rintro r w2 ⟨rfl, hb2⟩
          go_wp2
          go_roundw
          case rel => exact ⟨3, k + 1, by omega, by omega, by omega, rfl, by go_num, (hb.trans (hb2.mono hb.size)).alloc (by have := hb.size; have := hb2.size; omega) _⟩
          case measure => simp [intOf]; omega
        · go_wp2_with fail
          refine (next_ok 3 2 3 5 0 rfl _).mono ?_
          rintro r w2 ⟨rfl, hb2⟩
          go_wp2
          go_roundw
          case rel => exact ⟨3, k + 1, by omega, by omega, by omega, rfl, by go_num, (hb.trans (hb2.mono hb.size)).alloc (by have := hb.size; have := hb2.size; omega) _⟩
          case measure => simp [intOf]; omega
        · go_wp2_with fail
          refine (next_ok 3 3 4 7 0 rfl _).mono ?_
          rintro r w2 ⟨rfl, hb2⟩
          go_wp2
          go_roundw
          case rel => exact ⟨4, k + 1, by omega, by omega, by omega, rfl, by go_num, (hb.trans (hb2.mono hb.size)).alloc (by have := hb.size; have := hb2.size; omega) _⟩
          case measure => simp [intOf]; omega
        · go_wp2_with fail
          refine (next_ok 3 4 5 7 0 rfl _).mono ?_
          rintro r w2 ⟨rfl, hb2⟩
          go_wp2
          go_roundw
          case rel => exact ⟨5, k + 1, by omega, by omega, by omega, rfl, by go_num, (hb.trans (hb2.mono hb.size)).alloc (by have := hb.size; have := hb2.size; omega) _⟩
          case measure => simp [intOf]; omega
        · go_wp2_with fail
          refine (next_ok 3 5 3 9 0 rfl _).mono ?_
          rintro r w2 ⟨rfl, hb2⟩
          go_wp2
          go_roundw
          case rel => exact ⟨3, k + 1, by omega, by omega, by omega, rfl, by go_num, (hb.trans (hb2.mono hb.size)).alloc (by have := hb.size; have := hb2.size; omega) _⟩
          case measure => simp [intOf]; omega
        · go_wp2_with fail
          refine (next_ok 3 6 3 9 0 rfl _).mono ?_
          rintro r w2 ⟨rfl, hb2⟩
          go_wp2
          go_roundw
          case rel => exact ⟨3, k + 1, by omega, by omega, by omega, rfl, by go_num, (hb.trans (hb2.mono hb.size)).alloc (by have := hb.size; have := hb2.size; omega) _⟩
          case measure => simp [intOf]; omega
      · obtain hm | hm | hm | hm | hm | hm : z % 6 = 0 ∨ z % 6 = 1 ∨ z % 6 = 2 ∨ z % 6 = 3 ∨ z % 6 = 4 ∨ z % 6 = 5 := by omega
        · go_wp2_with fail
          refine (next_bad 4 1 4 0 0 15 rfl (by decide) _).mono ?_
          rintro r w2 ⟨rfl, hb2⟩
          go_wp2
          go_roundw
          case rel => exact ⟨4, k + 1, by omega, by omega, by omega, rfl, by go_num, (hb.trans (hb2.mono hb.size)).alloc (by have := hb.size; have := hb2.size; omega) _⟩
          case measure => simp [intOf]; omega
        · go_wp2_with fail
          refine (next_bad 4 2 4 0 0 15 rfl (by decide) _).mono ?_
          rintro r w2 ⟨rfl, hb2⟩
          go_wp2
          go_roundw
          case rel => exact ⟨4, k + 1, by omega, by omega, by omega, rfl, by go_num, (hb.trans (hb2.mono hb.size)).alloc (by have := hb.size; have := hb2.size; omega) _⟩
          case measure => simp [intOf]; omega
        · go_wp2_with fail
          refine (next_ok 4 3 4 7 0 rfl _).mono ?_
          rintro r w2 ⟨rfl, hb2⟩
          go_wp2
          go_roundw
          case rel => exact ⟨4, k + 1, by omega, by omega, by omega, rfl, by go_num, (hb.trans (hb2.mono hb.size)).alloc (by have := hb.size; have := hb2.size; omega) _⟩
          case measure => simp [intOf]; omega
        · go_wp2_with fail
          refine (next_ok 4 4 4 7 0 rfl _).mono ?_
          rintro r w2 ⟨rfl, hb2⟩
          go_wp2
          go_roundw
          case rel => exact ⟨4, k + 1, by omega, by omega, by omega, rfl, by go_num, (hb.trans (hb2.mono hb.size)).alloc (by have := hb.size; have := hb2.size; omega) _⟩
          case measure => simp [intOf]; omega
        · go_wp2_with fail
          refine (next_bad 4 5 4 0 0 15 rfl (by decide) _).mono ?_
          rintro r w2 ⟨rfl, hb2⟩
          go_wp2
          go_roundw
          case rel => exact ⟨4, k + 1, by omega, by omega, by omega, rfl, by go_num, (hb.trans (hb2.mono hb.size)).alloc (by have := hb.size; have := hb2.size; omega) _⟩
          case measure => simp [intOf]; omega
        · go_wp2_with fail
          refine (next_bad 4 6 4 0 0 15 rfl (by decide) _).mono ?_
          rintro r w2 ⟨rfl, hb2⟩
          go_wp2
          go_roundw
          case rel => exact ⟨4, k + 1, by omega, by omega, by omega, rfl, by go_num, (hb.trans (hb2.mono hb.size)).alloc (by have := hb.size; have := hb2.size; omega) _⟩
          case measure => simp [intOf]; omega
      · obtain hm | hm | hm | hm | hm | hm : z % 6 = 0 ∨ z % 6 = 1 ∨ z % 6 = 2 ∨ z % 6 = 3 ∨ z % 6 = 4 ∨ z % 6 = 5 := by omega
        · go_wp2_with fail
          refine (next_bad 5 1 5 0 0 15 rfl (by decide) _).mono ?_
          rintro r w2 ⟨rfl, hb2⟩
          go_wp2
          go_roundw
          case rel => exact ⟨5, k + 1, by omega, by omega, by omega, rfl, by go_num, (hb.trans (hb2.mono hb.size)).alloc (by have := hb.size; have := hb2.size; omega) _⟩
          case measure => simp [intOf]; omega
        · go_wp2_with fail
          refine (next_bad 5 2 5 0 0 15 rfl (by decide) _).mono ?_
          rintro r w2 ⟨rfl, hb2⟩
          go_wp2
          go_roundw
          case rel => exact ⟨5, k + 1, by omega, by omega, by omega, rfl, by go_num, (hb.trans (hb2.mono hb.size)).alloc (by have := hb.size; have := hb2.size; omega) _⟩
          case measure => simp [intOf]; omega
        · go_wp2_with fail
          refine (next_ok 5 3 5 7 0 rfl _).mono ?_
          rintro r w2 ⟨rfl, hb2⟩
          go_wp2
          go_roundw
          case rel => exact ⟨5, k + 1, by omega, by omega, by omega, rfl, by go_num, (hb.trans (hb2.mono hb.size)).alloc (by have := hb.size; have := hb2.size; omega) _⟩
          case measure => simp [intOf]; omega
        · go_wp2_with fail
          refine (next_ok 5 4 5 7 0 rfl _).mono ?_
          rintro r w2 ⟨rfl, hb2⟩
          go_wp2
          go_roundw
          case rel => exact ⟨5, k + 1, by omega, by omega, by omega, rfl, by go_num, (hb.trans (hb2.mono hb.size)).alloc (by have := hb.size; have := hb2.size; omega) _⟩
          case measure => simp [intOf]; omega
        · go_wp2_with fail
          refine (next_bad 5 5 5 0 0 15 rfl (by decide) _).mono ?_
          rintro r w2 ⟨rfl, hb2⟩
          go_wp2
          go_roundw
          case rel => exact ⟨5, k + 1, by omega, by omega, by omega, rfl, by go_num, (hb.trans (hb2.mono hb.size)).alloc (by have := hb.size; have := hb2.size; omega) _⟩
          case measure => simp [intOf]; omega
        · go_wp2_with fail
          refine (next_bad 5 6 5 0 0 15 rfl (by decide) _).mono ?_
          rintro r w2 ⟨rfl, hb2⟩
          go_wp2
          go_roundw
          case rel => exact ⟨5, k + 1, by omega, by omega, by omega, rfl, by go_num, (hb.trans (hb2.mono hb.size)).alloc (by have := hb.size; have := hb2.size; omega) _⟩
          case measure => simp [intOf]; omega
    · have hk' : k = len := by omega
      subst hk'
      have hge : ¬ (k : Int) < k := by omega
      go_wp2
      go_ret
      exact ⟨rfl, hb⟩
end Go.Proofs.Ytlillhkgghcghaa

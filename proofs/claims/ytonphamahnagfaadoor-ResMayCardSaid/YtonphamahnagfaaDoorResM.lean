/-
  catchboltlaw02.ResMay: whether any resource may be, its table, its shard, and its text, or the error, are the document's. The condition: the listed variables read as the program's text lays them.
-/
import Derived.Test.YtonphamahnagfaaDoorResW
namespace Go.Proofs.YtonphamahnagfaaDoor
open Go.ChangeShapes Go.WideShapes Go.ChangeAt Go.RowKit
set_option linter.unusedVariables false

set_option maxHeartbeats 400000 in
theorem rok_any (t r : Int) (w : World) :
    Calls Tryd.prog 16 #[.agg #[.int .i64 t, .int .i64 r]] w fun e w' => e = .returned (.bool (okR t r)) ∧ Below w.heap.size w w' := by
  have hbA : Below w.heap.size w (w.alloc (.cells #[.int .i64 t, .int .i64 r] 24)) := (Below.refl _ _).alloc (Nat.le_refl _) _
  unfold okR
  go_enter Tryd.func16, Tryd.ntmps16
  by_cases h1 : 1 ≤ t
  · by_cases h2 : t ≤ 250
    · by_cases h3 : 0 ≤ r
      · by_cases h4 : r ≤ 250
        · go_wp2
          go_ret
          exact ⟨retb (by first | (simp [h1, h2, h3, h4]; done) | (simp [h1, h2, h3, h4]; omega) | omega), hbA⟩
        · go_wp2
          go_ret
          exact ⟨retb (by simp; omega), hbA⟩
      · go_wp2
        go_ret
        exact ⟨retb (by simp; omega), hbA⟩
    · go_wp2
      go_ret
      exact ⟨retb (by simp; omega), hbA⟩
  · go_wp2
    go_ret
    exact ⟨retb (by simp; omega), hbA⟩
theorem rok_is (t r : Int) (b : Bool) (w : World) (h : okR t r = b) : Calls Tryd.prog 16 #[.agg #[.int .i64 t, .int .i64 r]] w fun e w' => e = .returned (.bool b) ∧ Below w.heap.size w w' := by
  have := rok_any t r w
  rwa [h] at this

set_option maxHeartbeats 1000000 in
theorem shard_bad (t r n : Int) (w : World) (h : okR t r = false) :
    Calls Tryd.prog 15 #[.agg #[.int .i64 t, .int .i64 r], .int .i64 n] w fun e w' => e = .returned (.tuple #[.int .i64 0, .iface 57 (.int .i64 1)]) ∧ Below w.heap.size w w' := by
  have hbA : Below w.heap.size w (w.alloc (.cells #[.int .i64 t, .int .i64 r] 24)) := (Below.refl _ _).alloc (Nat.le_refl _) _
  have hb0 : (w.alloc (.cells #[.int .i64 t, .int .i64 r] 24)).cell? ⟨w.heap.size, 0, none⟩ = some (.int .i64 t) := by simp
  have HO := Lib.hid (ok_no t r (w.alloc (.cells #[.int .i64 t, .int .i64 r] 24)) h)
  clear h
  go_enter Tryd.func15, Tryd.ntmps15
  go_wp2_with fail
  refine HO.out.mono ?_
  rintro e w5 ⟨rfl, hb5⟩
  go_wp2
  go_ret2
  exact ⟨rfl, hbA.trans (hb5.mono hbA.size)⟩
set_option maxHeartbeats 1000000 in
theorem shard_range (t r n : Int) (w : World) (h : okR t r = true) (hn : n < 1 ∨ 64 < n) :
    Calls Tryd.prog 15 #[.agg #[.int .i64 t, .int .i64 r], .int .i64 n] w fun e w' => e = .returned (.tuple #[.int .i64 0, .iface 57 (.int .i64 2)]) ∧ Below w.heap.size w w' := by
  have hbA : Below w.heap.size w (w.alloc (.cells #[.int .i64 t, .int .i64 r] 24)) := (Below.refl _ _).alloc (Nat.le_refl _) _
  have hb0 : (w.alloc (.cells #[.int .i64 t, .int .i64 r] 24)).cell? ⟨w.heap.size, 0, none⟩ = some (.int .i64 t) := by simp
  have HO := Lib.hid (ok_yes t r (w.alloc (.cells #[.int .i64 t, .int .i64 r] 24)) h)
  clear h
  go_enter Tryd.func15, Tryd.ntmps15
  by_cases h1 : n < 1
  · go_wp2_with fail
    refine HO.out.mono ?_
    rintro e w5 ⟨rfl, hb5⟩
    go_wp2
    go_ret2
    exact ⟨rfl, hbA.trans (hb5.mono hbA.size)⟩
  · have h2 : 64 < n := by omega
    go_wp2_with fail
    refine HO.out.mono ?_
    rintro e w5 ⟨rfl, hb5⟩
    go_wp2
    go_ret2
    exact ⟨rfl, hbA.trans (hb5.mono hbA.size)⟩

set_option maxRecDepth 100000 in
set_option maxHeartbeats 1000000 in
theorem rtext_bad (t r : Int) (w : World) (h : okR t r = false) :
    Calls Tryd.prog 13 #[.agg #[.int .i64 t, .int .i64 r]] w fun e w' => e = .returned (.tuple #[.string ⟨#[]⟩, .iface 57 (.int .i64 1)]) ∧ Below w.heap.size w w' := by
  have hbA : Below w.heap.size w (w.alloc (.cells #[.int .i64 t, .int .i64 r] 24)) := (Below.refl _ _).alloc (Nat.le_refl _) _
  have HO := Lib.hid (ok_no t r (w.alloc (.cells #[.int .i64 t, .int .i64 r] 24)) h)
  clear h
  go_enter Tryd.func13, Tryd.ntmps13
  go_wp2_with fail
  refine HO.out.mono ?_
  rintro e w5 ⟨rfl, hb5⟩
  go_wp2
  go_ret2
  exact ⟨rfl, hbA.trans (hb5.mono hbA.size)⟩

set_option maxHeartbeats 1000000 in
theorem table_bad (t r : Int) (w : World) (h : okR t r = false) :
    Calls Tryd.prog 14 #[.agg #[.int .i64 t, .int .i64 r]] w fun e w' => e = .returned (.tuple #[.agg #[.int .i64 0, .int .i64 0], .iface 57 (.int .i64 1)]) ∧ Below w.heap.size w w' := by
  have hbA : Below w.heap.size w ((w.alloc (.cells #[.int .i64 t, .int .i64 r] 24)).alloc (.cells #[.int .i64 0, .int .i64 0] 24)) := by go_grown
  have HO := Lib.hid (ok_no t r ((w.alloc (.cells #[.int .i64 t, .int .i64 r] 24)).alloc (.cells #[.int .i64 0, .int .i64 0] 24)) h)
  have hb0 : ((w.alloc (.cells #[.int .i64 t, .int .i64 r] 24)).alloc (.cells #[.int .i64 0, .int .i64 0] 24)).cell? ⟨w.heap.size, 0, none⟩ = some (.int .i64 t) := by
    rw [World.cell?_alloc_lt _ _ ⟨w.heap.size, 0, none⟩ (by simp)]; simp
  have hz0 : ((w.alloc (.cells #[.int .i64 t, .int .i64 r] 24)).alloc (.cells #[.int .i64 0, .int .i64 0] 24)).cell? ⟨w.heap.size + 1, 0, none⟩ = some (.int .i64 0) := by
    rw [World.cell?_alloc_at _ _ _ _ (by simp)]; rfl
  have hz1 : ((w.alloc (.cells #[.int .i64 t, .int .i64 r] 24)).alloc (.cells #[.int .i64 0, .int .i64 0] 24)).cell? ⟨w.heap.size + 1, 1, none⟩ = some (.int .i64 0) := by
    rw [World.cell?_alloc_at _ _ _ _ (by simp)]; rfl
  clear h
  go_enter Tryd.func14, Tryd.ntmps14
  go_wp2_with fail
  refine HO.out.mono ?_
  rintro e w5 ⟨rfl, hb5⟩
  have hb5' := hbA.trans (hb5.mono hbA.size)
  have c0 := cell_keep hb5 hb0
  have r0 := cell_keep hb5 hz0
  have r1 := cell_keep hb5 hz1
  have f0 : w5.frozen? ⟨w.heap.size + 1, 0, none⟩ = false := (hb5.frozen (p := ⟨w.heap.size + 1, 0, none⟩) (by simp)).trans (by simp)
  have f1 : w5.frozen? ⟨w.heap.size + 1, 1, none⟩ = false := (hb5.frozen (p := ⟨w.heap.size + 1, 1, none⟩) (by simp)).trans (by simp)
  obtain ⟨q0, q1⟩ := set2 r0 r1 (.int .i64 0) (.int .i64 0)
  have HBF := Lib.hid (show Below w.heap.size w ((w5.setCell ⟨w.heap.size + 1, 0, none⟩ (.int .i64 0)).setCell ⟨w.heap.size + 1, 1, none⟩ (.int .i64 0)) from Below.setCell (Below.setCell hb5' (Nat.le_succ _) _) (Nat.le_succ _) _)
  clear hb0 hz0 hz1
  go_wp2
  refine bodyPost_ret (by simp [results, Tryd.results14, go_sem, q0, q1] <;> rfl) rfl ?_
  exact ⟨rfl, HBF.out⟩

/-- counted round -/
def cnt (i n : Nat) : Nat := if i = 0 then 0 else (i - 1) % n + 1
theorem cnt_le (i n : Nat) (h : 1 ≤ n) : cnt i n ≤ n := by
  unfold cnt; split
  · omega
  · have := Nat.mod_lt (i - 1) h; omega
theorem cnt_up {i n : Nat} (h : 1 ≤ n) (hc : cnt i n < n) : cnt (i + 1) n = cnt i n + 1 := by
  unfold cnt at hc ⊢
  rw [if_neg (by omega)]
  by_cases h0 : i = 0
  · subst h0; simp [Nat.zero_mod]
  · rw [if_neg h0] at hc ⊢
    have := Nat.mod_add_mod (i - 1) n 1
    rw [show i + 1 - 1 = i - 1 + 1 by omega, ← this, Nat.mod_eq_of_lt (by omega)]
theorem cnt_round {i n : Nat} (h : 1 ≤ n) (hc : cnt i n = n) : cnt (i + 1) n = 1 := by
  unfold cnt at hc ⊢
  rw [if_neg (by omega)]
  by_cases h0 : i = 0
  · rw [if_pos h0] at hc; omega
  · rw [if_neg h0] at hc
    have := Nat.mod_add_mod (i - 1) n 1
    rw [show i + 1 - 1 = i - 1 + 1 by omega, ← this, show (i - 1) % n + 1 = n by omega, Nat.mod_self]

set_option maxHeartbeats 1000000 in
theorem rshard_any (t n : Nat) (r : Int) (w : World) (ht : t ≤ 250) (hn : 1 ≤ n ∧ n ≤ 64) :
    Calls Tryd.prog 19 #[.agg #[.int .i64 t, .int .i64 r], .int .i64 n] w fun e w' => e = .returned (.int .i64 (cnt t n : Nat)) ∧ Below w.heap.size w w' := by
  have hbA : Below w.heap.size w (w.alloc (.cells #[.int .i64 t, .int .i64 r] 24)) := (Below.refl _ _).alloc (Nat.le_refl _) _
  obtain ⟨hn1, hn2⟩ := hn
  go_enter Tryd.func19, Tryd.ntmps19
  have hb0 : (w.alloc (.cells #[.int .i64 t, .int .i64 r] 24)).cell? ⟨w.heap.size, 0, none⟩ = some (.int .i64 t) := by simp
  have HBA := Lib.hid hbA
  clear hbA
  go_wp2
  go_loop [5, 6] (fun s i => ∃ k : Nat, k ≤ t ∧ i = .int .i64 k ∧ s = .int .i64 (cnt k n : Nat)) (fun _ i => t - (intOf i).toNat)
  case atStart => exact ⟨0, by omega, rfl, rfl⟩
  case round =>
    obtain ⟨k, hk, rfl, rfl⟩ := hrel
    have hc := cnt_le k n hn1
    obtain ⟨s, hs⟩ : ∃ s, cnt k n = s := ⟨_, rfl⟩
    have HS := Lib.hid hs
    rw [hs] at hc ⊢
    clear hs
    by_cases hlt : k < t
    · have hlt' : (k : Int) < t := by omega
      by_cases hsn : s < n
      · have hng : ¬ (n : Int) < (s : Int) + 1 := by omega
        have HC := Lib.hid (cnt_up (i := k) hn1 (by rw [HS.out]; exact hsn))
        go_wp2
        go_round
        case rel => exact ⟨k + 1, by omega, by go_num, by rw [HC.out, HS.out]; go_num⟩
        case measure => simp [intOf]; omega
      · have hg : (n : Int) < (s : Int) + 1 := by omega
        have HC := Lib.hid (cnt_round (i := k) hn1 (by rw [HS.out]; omega))
        go_wp2
        go_round
        case rel => exact ⟨k + 1, by omega, by go_num, by rw [HC.out]; rfl⟩
        case measure => simp [intOf]; omega
    · have hk' : k = t := by omega
      subst hk'
      have hge : ¬ (k : Int) < k := by omega
      go_wp2
      go_ret
      exact ⟨by rw [HS.out]; rfl, HBA.out⟩
theorem cnt_eq (t n : Nat) (ht : 1 ≤ t) : ((t : Int) - 1) % n + 1 = ((cnt t n : Nat) : Int) := by
  unfold cnt
  rw [if_neg (by omega)]
  have : ((t : Int) - 1) = ((t - 1 : Nat) : Int) := by omega
  rw [this]; push_cast; rfl
theorem shard_cnt (t r n : Nat) (w : World) (h : okR t r = true) (ht : 1 ≤ t) (hn : 1 ≤ n ∧ n ≤ 64) :
    Calls Tryd.prog 15 #[.agg #[.int .i64 t, .int .i64 r], .int .i64 n] w fun e w' => e = .returned (.tuple #[.int .i64 (cnt t n : Nat), .nilIface]) ∧ Below w.heap.size w w' := by
  have := shard_any t r n w h (by omega)
  rwa [cnt_eq t n ht] at this
end Go.Proofs.YtonphamahnagfaaDoor

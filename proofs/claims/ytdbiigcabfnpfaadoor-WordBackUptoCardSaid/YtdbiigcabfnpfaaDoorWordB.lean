/-
  slices.Clone and slices.Clip at []byte, word.right, catchboltref03.power, Same: over any rows of bytes. No other conditions.
-/
import Derived.Test.YtdbiigcabfnpfaaDoorWordF
import Derived.Test.YtdbiigcabfnpfaaDoorNum
import Derived.Test.YtdbiigcabfnpfaaDoorErr
import Derived.LoopTactic
import Derived.Lib.Walk
import Derived.Lib.SliceRun
namespace Go.Proofs.YtdbiigcabfnpfaaDoor
open Go.ChangeShapes Go.WideShapes Go.ChangeAt Go.RowKit
set_option linter.unusedVariables false

theorem u8_info : (Tryd.prog.info? 5).map (fun i => (i.zero, i.size, i.bytes)) = some (some (.int .u8 0), 1, 1) := by kernel_rfl
theorem i64_info : (Tryd.prog.info? 3).map (fun i => (i.zero, i.size, i.bytes)) = some (some (.int .i64 0), 1, 8) := by kernel_rfl

set_option maxHeartbeats 400000 in
theorem right_any (width : Int) (w : World) :
    Calls Tryd.prog 19 #[.int .i64 width] w fun e w' => e = .returned (.bool (okW width)) ∧ w = w' := by
  unfold okW
  go_enter Tryd.func19, Tryd.ntmps19
  by_cases h1 : 1 ≤ width
  · go_wp2
    go_ret
    exact ⟨retb (by simp [h1]), rfl⟩
  · go_wp2
    go_ret
    exact ⟨retb (by simp; omega), rfl⟩

theorem right_no (width : Int) (w : World) (h : okW width = false) :
    Calls Tryd.prog 19 #[.int .i64 width] w fun e w' => e = .returned (.bool false) ∧ w = w' := by
  have := right_any width w
  rwa [h] at this
theorem right_yes (width : Int) (w : World) (h : okW width = true) :
    Calls Tryd.prog 19 #[.int .i64 width] w fun e w' => e = .returned (.bool true) ∧ w = w' := by
  have := right_any width w
  rwa [h] at this

set_option maxHeartbeats 400000 in
theorem power_any (n : Nat) (w : World) (hn : n ≤ 4) :
    Calls Tryd.prog 22 #[.int .i64 n] w fun e w' => e = .returned (.int .i64 (pow256 n)) ∧ w = w' := by
  go_enter Tryd.func22, Tryd.ntmps22
  go_wp2
  go_loop [3, 4] (fun p i => ∃ k : Nat, k ≤ n ∧ i = .int .i64 k ∧ p = .int .i64 (pow256 k)) (fun _ i => n - (intOf i).toNat)
  case atStart => exact ⟨0, by omega, rfl, rfl⟩
  case round =>
    obtain ⟨k, hk, rfl, rfl⟩ := hrel
    by_cases hlt : k < n
    · have hlt' : (k : Int) < n := by omega
      have hb := pow256_le (n := k) (by omega)
      have hp := pow256_pos k
      go_wp2
      go_round
      case rel => exact ⟨k + 1, by omega, by go_num, by rw [pow256]⟩
      case measure => simp [intOf]; omega
    · have hk' : k = n := by omega
      subst hk'
      have hge : ¬ (k : Int) < k := by omega
      go_wp2
      go_ret
      exact ⟨rfl, rfl⟩

set_option maxRecDepth 100000 in
set_option maxHeartbeats 400000 in
/-- a copy: a row of the call's own -/
theorem clone_any (A : Option Addr) (n c : Nat) (zs : List Int) (w : World) (hl : zs.length = n) (h : RdN .u8 w A zs) (hm : n ≤ 140737488355328) :
    Calls Tryd.prog 20 #[.slice A n c] w fun e w' => (∃ v, e = .returned v ∧ w'.ownsRow w.heap.size 5 1 v n (numV .u8 zs)) ∧ Below w.heap.size w w' := by
  have q22 : ∀ (w : World) (a : Option Addr) (n c n' c' : Nat), (binOp .eql 22 (.slice a n c) (.slice none n' c')).run Tryd.prog w = .ok (.bool a.isNone) w := fun w a n c n' c' => Lib.run_eql_slice_nil w _ _ a n c n' c' Tryd.underlying22
  cases A with
  | none =>
    have hn0 : n = 0 := by
      obtain ⟨g, o, h1, _⟩ := h
      rcases Nat.eq_zero_or_pos n with h2 | h2
      · exact h2
      · have := (h1 (by omega)).1; cases this
    subst hn0
    have hz : zs = [] := List.eq_nil_of_length_eq_zero hl
    subst hz
    go_enter Tryd.func20, Tryd.ntmps20
    go_wp2
    go_ret
    exact ⟨⟨_, rfl, World.ownsRow_nil _ _ _ _⟩, Below.refl _ _⟩
  | some ad =>
    have hbA : Below w.heap.size w (w.alloc (.cells #[] 5)) := (Below.refl _ _).alloc (Nat.le_refl _) _
    have hR := h.below hbA
    have hO := own_empty w 5 1
    have hs : w.heap.size ≤ (w.alloc (.cells #[] 5)).heap.size := by simp
    go_enter Tryd.func20, Tryd.ntmps20
    go_wp2_with (at_builtin; refine wpList_append_nums rfl _ _ rfl rfl Tryd.underlying22 u8_info (by decide) w.heap.size _ 0 [] rfl hO (some ad) n c zs rfl hl hR hs (by omega) ?_; intro v7 w7 hown7 hg7)
    go_ret
    rw [Nat.zero_add] at hown7
    exact ⟨⟨_, rfl, hown7⟩, hbA.grown hg7 hs (fun k hk => (hO.lt k hk).1)⟩

theorem clip_any (A : Option Addr) (n c : Nat) (w : World) (hc : n ≤ c) (hm : c ≤ maxLen) :
    Calls Tryd.prog 21 #[.slice A n c] w fun e w' => e = .returned (.slice A n n) ∧ w = w' := by
  unfold maxLen at hm
  go_enter Tryd.func21, Tryd.ntmps21
  go_wp2
  go_ret
  exact ⟨rfl, rfl⟩

set_option maxHeartbeats 1000000 in
/-- the same rows are the same -/
theorem same_any (A0 A1 : Option Addr) (n c0 c1 : Nat) (zs : List Int) (w : World) (hl : zs.length = n) (h0 : RdN .u8 w A0 zs) (h1 : RdN .u8 w A1 zs) (hm : n ≤ 140737488355328) :
    Calls Tryd.prog 10 #[.slice A0 n c0, .slice A1 n c1] w fun e w' => e = .returned (.bool true) ∧ Below w.heap.size w w' := by
  obtain ⟨g0, o0, hA0, hc0⟩ := h0
  obtain ⟨g1, o1, hA1, hc1⟩ := h1
  have HL := Lib.hid hl
  clear hl
  go_enter Tryd.func10, Tryd.ntmps10
  go_wp2
  go_loopw [5] (fun i wr => Below w.heap.size w wr ∧ ∃ k : Nat, k ≤ n ∧ i = .int .i64 k) (fun i _ => n - (intOf i).toNat)
  case atStart => exact ⟨Below.refl _ _, 0, by omega, rfl⟩
  case round =>
    obtain ⟨hb, k, hk, rfl⟩ := hrel
    by_cases hlt : k < n
    · have hlt' : (k : Int) < n := by omega
      obtain ⟨rfl, hg0⟩ := hA0 (by rw [HL.out]; omega)
      obtain ⟨rfl, hg1⟩ := hA1 (by rw [HL.out]; omega)
      have c0 := (hb.cell (p := ⟨g0, _, none⟩) hg0).trans (hc0 k (by rw [HL.out]; omega))
      have c1 := (hb.cell (p := ⟨g1, _, none⟩) hg1).trans (hc1 k (by rw [HL.out]; omega))
      generalize zs.getD k 0 = z at c0 c1
      have hne : (z != z) = false := by simp
      go_wp2
      go_region
      go_wp2
      go_roundw
      case rel => exact ⟨by first | exact hb | exact hb.drew, k + 1, by omega, by go_num⟩
      case measure => simp [intOf]; omega
    · have hk' : k = n := by omega
      subst hk'
      have hge : ¬ (k : Int) < k := by omega
      go_wp2
      go_ret
      exact ⟨rfl, hb⟩
end Go.Proofs.YtdbiigcabfnpfaaDoor

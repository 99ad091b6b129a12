/-
  line.All, slices.Concat of two rows, slices.Grow of nil: a new row of all. No other conditions.
-/
import Derived.Test.YtpbgdldaojpjkaaPlace
import Derived.Lib.AppendZerosOnto
import Derived.Lib.Walk
import Derived.Lib.SliceRun
import Derived.Deep.RegionHeld3
namespace Go.Proofs.Ytpbgdldaojpjkaa
open Go.ChangeShapes Go.WideShapes Go.ChangeAt Go.RowKit
set_option linter.unusedVariables false

theorem zeroCells_size (z : Array Value) (n : Nat) : (Builtin.zeroCells z n).size = n * z.size := by simp [Builtin.zeroCells]

set_option maxRecDepth 100000 in
set_option maxHeartbeats 1000000 in
theorem grow_nil (n : Nat) (w : World) (hn : n ≤ 100000) :
    Calls Try.prog 32 #[.slice none 0 0, .int .i64 n] w fun e w' => (∃ v, e = .returned v ∧ w'.ownsRow w.heap.size 33 4 v 0 []) ∧ Below w.heap.size w w' := by
  rcases Nat.eq_zero_or_pos n with h0 | h0
  · subst h0
    go_enter Try.func32, Try.ntmps32
    go_wp2
    go_ret
    exact ⟨⟨_, rfl, World.ownsRow_nil _ _ _ _⟩, Below.refl _ _⟩
  · obtain ⟨i0, hi0, hz0, hz1, hz2⟩ := info_parts wait_info
    have hrz := fun ty => Lib.run_append_grow_zeros (P := Try.prog) w 30 3 ty 33 i0 _ .i64 .i64 Try.underlying30 Try.underlying3 hi0 hz0 none 0 0 [] (by simp [Builtin.firstCells]) n h0 (by omega) (by omega) (by omega) (by rw [hz2]; omega)
      (by rw [hz2]; unfold Builtin.nextslicecap; rw [if_pos (by omega)]; omega)
    have hG := grownCap_ge w (0 + n) 0 33
    have hG2 := grownCap_le_maxLen w (0 + n) 0 33 (by unfold maxLen; omega)
    simp only [Nat.zero_add] at hrz hG hG2
    generalize grownCap w n 0 33 = G at *
    have hown : ∀ (cs : Array Value), cs.size = G * 4 → (w.drew.alloc (.cells cs 33)).ownsRow w.heap.size 33 4 (.slice (some ⟨w.heap.size, 0, none⟩) 0 G) 0 [] := fun cs hcs =>
      World.ownsRow_made w.drew cs G (Nat.le_refl _) hG2 hcs
    have hO := hown _ (show ((#[] : Array Value) ++ Builtin.zeroCells (Value.agg #[.int .i64 0, .int .i64 0, .int .i64 0, .bool false]).cells n ++ Builtin.zeroCells (Value.agg #[.int .i64 0, .int .i64 0, .int .i64 0, .bool false]).cells (G - n)).size = G * 4 by
      rw [Array.size_append, Array.size_append, zeroCells_size, zeroCells_size]
      have : (Value.agg #[.int .i64 0, .int .i64 0, .int .i64 0, .bool false]).cells.size = 4 := by rfl
      rw [this]; simp; omega)
    have hB : Below w.heap.size w (w.drew.alloc (.cells ((#[] : Array Value) ++ Builtin.zeroCells (Value.agg #[.int .i64 0, .int .i64 0, .int .i64 0, .bool false]).cells n ++ Builtin.zeroCells (Value.agg #[.int .i64 0, .int .i64 0, .int .i64 0, .bool false]).cells (G - n)) 33)) :=
      (Below.drew (Below.refl _ _)).alloc (Nat.le_refl _) _
    have hG63 : G ≤ 9223372036854775807 := by unfold maxLen at hG2; omega
    have hn0 : (0 : Int) < n := by omega
    clear hown
    generalize (w.drew.alloc (.cells ((#[] : Array Value) ++ Builtin.zeroCells (Value.agg #[.int .i64 0, .int .i64 0, .int .i64 0, .bool false]).cells n ++ Builtin.zeroCells (Value.agg #[.int .i64 0, .int .i64 0, .int .i64 0, .bool false]).cells (G - n)) 33)) = w1 at *
    go_enter Try.func32, Try.ntmps32
    go_wp2_with (at_builtin; refine Lib.wpList_append_run _ rfl _ _ _ _ rfl _ _ rfl rfl _ _ (hrz _) ?_)
    all_goals (go_ret; exact ⟨⟨_, rfl, hO⟩, hB⟩)

set_option maxRecDepth 100000 in
set_option maxHeartbeats 4000000 in
theorem concat_any (q : Nat) (A0 A1 : Option Addr) (c0 c1 : Nat) (a b : List Wt) (na nb : Nat) (w : World) (hna : a.length = na) (hnb : b.length = nb) (hq0 : w.cell? ⟨q, 0, none⟩ = some (.slice A0 na c0)) (hq1 : w.cell? ⟨q, 1, none⟩ = some (.slice A1 nb c1))
    (h0 : RdW w A0 a) (h1 : RdW w A1 b) (z0 : A0 = none → na = 0) (z1 : A1 = none → nb = 0) (m0 : na ≤ 10000) (m1 : nb ≤ 10000) :
    Calls Try.prog 23 #[.slice (some ⟨q, 0, none⟩) 2 2] w fun e w' => (∃ v, e = .returned v ∧ w'.ownsRow w.heap.size 33 4 v (na + nb) (flatW (a ++ b))) ∧ Below w.heap.size w w' := by
  have hq := lt_of_cell hq0
  have P0 := Lib.hid h0
  have P1 := Lib.hid h1
  have Z0 := Lib.hid z0
  have Z1 := Lib.hid z1
  clear h0 h1 z0 z1
  go_enter Try.func23, Try.ntmps23
  go_wp2
  go_loopw [3, 11] (fun s i wr => wr = w ∧ ((i = .int .i64 0 ∧ s = .int .i64 0) ∨ (i = .int .i64 1 ∧ s = .int .i64 na) ∨ (i = .int .i64 2 ∧ s = .int .i64 (na + nb : Nat)))) (fun _ i _ => 2 - (intOf i).toNat)
  case atStart => exact ⟨rfl, .inl ⟨rfl, rfl⟩⟩
  case round =>
    obtain ⟨rfl, ⟨rfl, rfl⟩ | ⟨rfl, rfl⟩ | ⟨rfl, rfl⟩⟩ := hrel
    · have hs : ¬ ((na : Int) < 0) := by omega
      go_wp2
      go_roundw
      case rel => exact ⟨by trivial, .inr (.inl ⟨rfl, rfl⟩)⟩
      case measure => simp [intOf]
    · have hs : ¬ ((na : Int) + nb < 0) := by omega
      go_wp2
      go_roundw
      case rel => exact ⟨by trivial, .inr (.inr ⟨rfl, by first | rfl | go_num⟩)⟩
      case measure => simp [intOf]
    · go_wp2_with fail
      refine (grow_nil (na + nb) wr (by omega)).mono ?_
      rintro e w1 ⟨⟨v1, rfl, hown1⟩, hb1⟩
      go_wp2
      go_loopw [6, 27] (fun v i wx => Below wr.heap.size wr wx ∧ ((i = .int .i64 0 ∧ wx.ownsRow wr.heap.size 33 4 v 0 []) ∨ (i = .int .i64 1 ∧ wx.ownsRow wr.heap.size 33 4 v na (flatW a)) ∨ (i = .int .i64 2 ∧ wx.ownsRow wr.heap.size 33 4 v (na + nb) (flatW (a ++ b))))) (fun _ i _ => 2 - (intOf i).toNat)
      case atStart => exact ⟨hb1, .inl ⟨rfl, hown1⟩⟩
      case round =>
        obtain ⟨hbx, ⟨rfl, hown⟩ | ⟨rfl, hown⟩ | ⟨rfl, hown⟩⟩ := hrel
        · have k0 := (hbx.cell (p := ⟨q, 0, none⟩) hq).trans hq0
          have hsx := hbx.size
          have r0 := P0.out.below hbx
          go_wp2_with (at_builtin; refine wpList_append_waits rfl _ _ rfl rfl _ _ 0 [] rfl hown A0 na c0 a hna rfl r0 Z0.out hsx (by omega) ?_; intro v7 w7 hown7 hg7)
          go_roundw
          case rel => exact ⟨Below.grown hbx hg7 hsx (fun q hq => (hown.lt q hq).1), .inr (.inl ⟨rfl, by simpa using hown7⟩)⟩
          case measure => simp [intOf]
        · have k1 := (hbx.cell (p := ⟨q, 1, none⟩) hq).trans hq1
          have hsx := hbx.size
          have r1 := P1.out.below hbx
          go_wp2_with (at_builtin; refine wpList_append_waits rfl _ _ rfl rfl _ _ na _ rfl hown A1 nb c1 b hnb rfl r1 Z1.out hsx (by omega) ?_; intro v7 w7 hown7 hg7)
          go_roundw
          case rel => exact ⟨Below.grown hbx hg7 hsx (fun q hq => (hown.lt q hq).1), .inr (.inr ⟨rfl, by rw [flatW_append]; exact hown7⟩)⟩
          case measure => simp [intOf]
        · go_wp2
          go_ret
          exact ⟨⟨_, rfl, hown⟩, hbx⟩

set_option maxHeartbeats 2000000 in
theorem all_any (g : Nat) (lim : Int) (A0 A1 : Option Addr) (c0 c1 : Nat) (a b : List Wt) (na nb : Nat) (w : World) (hna : a.length = na) (hnb : b.length = nb) (hl : LineAt w g lim (.slice A0 na c0) (.slice A1 nb c1)) (h0 : RdW w A0 a) (h1 : RdW w A1 b) (z0 : A0 = none → na = 0) (z1 : A1 = none → nb = 0)
    (m0 : na ≤ 10000) (m1 : nb ≤ 10000) :
    Calls Try.prog 14 #[.pointer (some ⟨g, 0, none⟩)] w fun e w' => (∃ v, e = .returned v ∧ w'.ownsRow w.heap.size 33 4 v (na + nb) (flatW (a ++ b))) ∧ Below w.heap.size w w' := by
  obtain ⟨hg, hc0, hc1, hc2⟩ := hl
  have hbA : Below w.heap.size w (w.alloc (.cells #[.slice A0 na c0, .slice A1 nb c1] 30)).drew := Below.drew ((Below.refl _ _).alloc (Nat.le_refl _) _)
  have hC := concat_any w.heap.size A0 A1 c0 c1 a b na nb (w.alloc (.cells #[.slice A0 na c0, .slice A1 nb c1] 30)).drew hna hnb (by simp) (by simp) (h0.below hbA) (h1.below hbA) z0 z1 m0 m1
  have HC := Lib.hid hC
  clear hC
  go_enter Try.func14, Try.ntmps14
  go_wp2
  go_region_held3 (fun w' => w'.cell? ⟨g, 1, none⟩ = some (.slice A0 na c0) ∧ w'.cell? ⟨g, 2, none⟩ = some (.slice A1 nb c1)) (first | go_keep | (constructor <;> assumption))
    (first | (go_at_call 23; refine (HC.out).mono ?_; rintro e w5 ⟨⟨v5, rfl, hown5⟩, hb5⟩; have k1 := ((hbA.trans (hb5.mono hbA.size)).cell (p := ⟨g, 1, none⟩) hg).trans hc1; have k2 := ((hbA.trans (hb5.mono hbA.size)).cell (p := ⟨g, 2, none⟩) hg).trans hc2))
  go_wp2
  go_ret
  exact ⟨⟨_, rfl, own_weaken hown5 hbA.size⟩, hbA.trans (hb5.mono hbA.size)⟩
end Go.Proofs.Ytpbgdldaojpjkaa

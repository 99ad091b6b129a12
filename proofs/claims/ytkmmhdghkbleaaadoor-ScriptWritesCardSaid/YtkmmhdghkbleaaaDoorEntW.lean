/-
  script.write and script.read: the bytes of an entry that may be; the entry of five bytes. No other conditions.
-/
import Derived.Test.YtkmmhdghkbleaaaDoorEnt
import Derived.RegionTactic
import Derived.ChangeAlike
import Derived.BigQuiet
import Derived.Deep.QuietTactic
import Derived.Deep.Draws
import Derived.LoopTactic
namespace Go.Proofs.YtkmmhdghkbleaaaDoor
open Go.ChangeShapes Go.WideShapes Go.ChangeAt Go.RowKit
set_option linter.unusedVariables false

/-- a slice value over five new bytes -/
def Five (w w' : World) (v : Value) (a b c d e : Int) : Prop :=
  ∃ g, v = .slice (some ⟨g, 0, none⟩) 5 5 ∧ w.heap.size ≤ g ∧ g < w'.heap.size ∧ w'.cell? ⟨g, 0, none⟩ = some (.int .u8 a) ∧ w'.cell? ⟨g, 1, none⟩ = some (.int .u8 b) ∧
    w'.cell? ⟨g, 2, none⟩ = some (.int .u8 c) ∧ w'.cell? ⟨g, 3, none⟩ = some (.int .u8 d) ∧ w'.cell? ⟨g, 4, none⟩ = some (.int .u8 e)

theorem five_mk (w : World) (A : Array Value) (T T' : TypeId) (a b c d e : Int) :
    Five w ((w.alloc (.cells A T)).alloc (.cells #[.int .u8 a, .int .u8 b, .int .u8 c, .int .u8 d, .int .u8 e] T')) (.slice (some ⟨w.heap.size + 1, 0, none⟩) 5 5) a b c d e :=
  ⟨w.heap.size + 1, rfl, by omega, by simp, by simp, by simp, by simp, by simp, by simp⟩
theorem five_drew {w w' : World} {v : Value} {a b c d e : Int} (h : Five w w' v a b c d e) : Five w w'.drew v a b c d e := h

set_option maxHeartbeats 2000000 in
theorem write_3 (c t r m : Int) (w : World) (hc : 0 ≤ c ∧ c ≤ 255) (ht : 0 ≤ t ∧ t ≤ 255) (hr : 0 ≤ r ∧ r ≤ 255) (hm : 0 ≤ m ∧ m ≤ 255) :
    Calls Tryd.prog 15 #[.agg #[.int .i64 3, .int .i64 c, .int .i64 t, .int .i64 r, .int .i64 m, .int .i64 0]] w fun e w' => (∃ v, e = .returned v ∧ Five w w' v 3 c t r m) ∧ Below w.heap.size w w' := by
  obtain ⟨hc0, hc1⟩ := hc
  obtain ⟨ht0, ht1⟩ := ht
  obtain ⟨hr0, hr1⟩ := hr
  obtain ⟨hm0, hm1⟩ := hm
  go_enter Tryd.func15, Tryd.ntmps15
  go_wp2
  go_region
  all_goals go_wp2
  go_ret
  exact ⟨⟨_, rfl, five_drew (five_mk ..)⟩, by go_grown⟩

set_option maxHeartbeats 2000000 in
theorem write_c (k c : Int) (w : World) (hk : k = 2 ∨ k = 4 ∨ k = 5 ∨ k = 6) (hc : 0 ≤ c ∧ c ≤ 255) :
    Calls Tryd.prog 15 #[.agg #[.int .i64 k, .int .i64 c, .int .i64 0, .int .i64 0, .int .i64 0, .int .i64 0]] w fun e w' => (∃ v, e = .returned v ∧ Five w w' v k c 0 0 0) ∧ Below w.heap.size w w' := by
  obtain ⟨hc0, hc1⟩ := hc
  rcases hk with rfl | rfl | rfl | rfl
  all_goals
    go_enter Tryd.func15, Tryd.ntmps15
    go_wp2
    go_ret
    exact ⟨⟨_, rfl, five_mk ..⟩, by go_grown⟩

set_option maxHeartbeats 2000000 in
theorem write_0 (k : Int) (w : World) (hk : k = 0 ∨ k = 1) :
    Calls Tryd.prog 15 #[.agg #[.int .i64 k, .int .i64 0, .int .i64 0, .int .i64 0, .int .i64 0, .int .i64 0]] w fun e w' => (∃ v, e = .returned v ∧ Five w w' v k 0 0 0 0) ∧ Below w.heap.size w w' := by
  rcases hk with rfl | rfl
  all_goals
    go_enter Tryd.func15, Tryd.ntmps15
    go_wp2
    go_ret
    exact ⟨⟨_, rfl, five_mk ..⟩, by go_grown⟩

set_option maxHeartbeats 4000000 in
theorem write_p (k p : Int) (w : World) (hk : k = 7 ∨ k = 8 ∨ k = 9) (hp : 0 ≤ p ∧ p < 16777216) :
    Calls Tryd.prog 15 #[.agg #[.int .i64 k, .int .i64 0, .int .i64 0, .int .i64 0, .int .i64 0, .int .i64 p]] w fun e w' => (∃ v, e = .returned v ∧ Five w w' v k (p / 65536) (p / 256 % 256) (p % 256) 0) ∧ Below w.heap.size w w' := by
  obtain ⟨hp0, hp1⟩ := hp
  rcases hk with rfl | rfl | rfl
  all_goals
    go_enter Tryd.func15, Tryd.ntmps15
    go_wp2
    go_region
    all_goals go_wp2
    go_ret
    exact ⟨⟨_, rfl, five_drew (five_mk ..)⟩, by go_grown⟩

def eqUp (x y : Nat → Int) : Nat → Bool
  | 0 => true
  | n + 1 => eqUp x y n && x n == y n
theorem eqUp_iff (x y : Nat → Int) (n : Nat) : eqUp x y n = true ↔ ∀ i, i < n → x i = y i := by
  induction n with
  | zero => simp [eqUp]
  | succ n ih =>
    simp only [eqUp, Bool.and_eq_true, ih, beq_iff_eq]
    constructor
    · intro h i hi
      rcases Nat.lt_or_ge i n with h1 | h1
      · exact h.1 i h1
      · obtain rfl : i = n := by omega
        exact h.2
    · intro h; exact ⟨fun i hi => h i (by omega), h n (by omega)⟩

set_option maxHeartbeats 2000000 in
theorem equal_any (g o b off n c d : Nat) (x y : Nat → Int) (w : World) (hn : n ≤ 1000000)
    (hx : ∀ i, i < n → w.cell? ⟨g, o + i, none⟩ = some (.int .u8 (x i))) (hy : ∀ i, i < n → w.cell? ⟨b, off + i, none⟩ = some (.int .u8 (y i))) :
    Calls Tryd.prog 28 #[.slice (some ⟨g, o, none⟩) n c, .slice (some ⟨b, off, none⟩) n d] w fun e w' => e = .returned (.bool (eqUp x y n)) ∧ ∃ q, w' = w.drewN q := by
  have HX := Lib.hid hx
  have HY := Lib.hid hy
  clear hx hy
  go_enter Tryd.func28, Tryd.ntmps28
  go_wp2
  go_loopw [13] (fun i wr => ∃ (k q : Nat), k ≤ n ∧ i = .int .i64 k ∧ wr = w.drewN q ∧ eqUp x y k = true) (fun i _ => n - (intOf i).toNat)
  case atStart => exact ⟨0, 0, by omega, rfl, rfl, rfl⟩
  case round =>
    obtain ⟨k, q, hk, rfl, rfl, he⟩ := hrel
    have HE := Lib.hid he
    clear he
    by_cases hlt : k < n
    · have hcx : w.cell? ⟨g, o + k, none⟩ = some (.int .u8 (x k)) := HX.out k hlt
      have hcy : w.cell? ⟨b, off + k, none⟩ = some (.int .u8 (y k)) := HY.out k hlt
      have hlt' : (k : Int) < n := by omega
      have h0 : (0 : Int) ≤ k := by omega
      by_cases hxy : x k = y k
      · have hs : Hid (eqUp x y (k + 1) = true) := by show eqUp x y (k + 1) = true; simp [eqUp, HE.out, hxy]
        have hb : (x k != y k) = false := by simp [hxy]
        clear hxy
        go_wp2
        go_quiet (fail)
        go_wp2
        go_roundw
        case rel => exact ⟨k + 1, _, by omega, by go_num, rfl, hs.out⟩
        case measure => simp [intOf]; omega
      · have hs : Hid (eqUp x y n = false) := by
          show eqUp x y n = false
          cases h : eqUp x y n
          · rfl
          · exact absurd ((eqUp_iff x y n).1 h k hlt) hxy
        have hb : (x k != y k) = true := by simp [hxy]
        clear hxy
        go_wp2
        go_quiet (fail)
        go_wp2
        go_ret
        exact ⟨by rw [hs.out]; rfl, _, World.drewN_drewN _ _ _⟩
    · have hk' : k = n := by omega
      subst hk'
      have hge : ¬ (k : Int) < k := by omega
      go_wp2
      go_ret
      exact ⟨by rw [HE.out]; rfl, q, rfl⟩
end Go.Proofs.YtkmmhdghkbleaaaDoor

/-
  The walks of catchboltlaw14.PartVotes and PartAgain: each answers true at every input. No conditions.
-/
import Derived.Test.YtlillhkgghcghaaTable
namespace Go.Proofs.Ytlillhkgghcghaa
open Go.ChangeShapes Go.WideShapes Go.ChangeAt Go.RowKit

set_option maxHeartbeats 1000000 in
theorem votes_ok (v s a c : Int) (h : nx s 2 = (a, 5, c, 0)) (hv0 : 0 ≤ v) (hv1 : v ≤ 255) (hs : v % 6 = s) (w : World)
    (k1 : (s == 4) = false) (k2 : (s == 5) = false) (k3 : (c == 1) = (s == 1 || s == 2)) (k4 : (a == 2) = (s == 1 || s == 2)) :
    Calls Try.prog 5 #[.int .u8 v] w fun r w' => r = .returned (.bool true) ∧ Below w.heap.size w w' := by
  have H := Lib.hid h
  clear h
  go_enter Try.func5, Try.ntmps5
  go_wp2_with fail
  refine (alive_true _).mono ?_
  rintro r w1 ⟨rfl, hb1⟩
  go_wp2_with fail
  refine (next_ok _ _ _ _ _ H.out _).mono ?_
  rintro r w2 ⟨rfl, hb2⟩
  go_wp2
  all_goals
    go_ret
    refine ⟨rfl, ?_⟩
    have g1 := hb1.size
    have g2 := hb2.size
    exact (hb1.trans (hb2.mono g1)).alloc (by omega) _

set_option maxHeartbeats 1000000 in
theorem votes_bad (v s : Int) (h : nx s 2 = (s, 0, 0, 15)) (hv0 : 0 ≤ v) (hv1 : v ≤ 255) (hs : v % 6 = s) (w : World) (k : s = 4 ∨ s = 5) :
    Calls Try.prog 5 #[.int .u8 v] w fun r w' => r = .returned (.bool true) ∧ Below w.heap.size w w' := by
  have H := Lib.hid h
  clear h
  rcases k with rfl | rfl
  all_goals
    go_enter Try.func5, Try.ntmps5
    go_wp2_with fail
    refine (alive_true _).mono ?_
    rintro r w1 ⟨rfl, hb1⟩
    go_wp2_with fail
    refine (next_bad _ _ _ _ _ _ H.out (by decide) _).mono ?_
    rintro r w2 ⟨rfl, hb2⟩
    go_wp2_with (first | (go_at_call 10; refine (code_errno 15 _ (by omega) (by omega)).mono ?_; rintro r w3 ⟨rfl, rfl⟩) | go_in)
    go_ret
    refine ⟨rfl, ?_⟩
    have g1 := hb1.size
    have g2 := hb2.size
    exact (hb1.trans (hb2.mono g1)).alloc (by omega) _

theorem votes_true (v : Int) (h0 : 0 ≤ v) (h1 : v ≤ 255) (w : World) :
    Calls Try.prog 5 #[.int .u8 v] w fun r w' => r = .returned (.bool true) ∧ Below w.heap.size w w' := by
  have hm : v % 6 = 0 ∨ v % 6 = 1 ∨ v % 6 = 2 ∨ v % 6 = 3 ∨ v % 6 = 4 ∨ v % 6 = 5 := by omega
  rcases hm with hm | hm | hm | hm | hm | hm
  · exact votes_ok v 0 0 0 (by decide) h0 h1 hm w (by decide) (by decide) (by decide) (by decide)
  · exact votes_ok v 1 2 1 (by decide) h0 h1 hm w (by decide) (by decide) (by decide) (by decide)
  · exact votes_ok v 2 2 1 (by decide) h0 h1 hm w (by decide) (by decide) (by decide) (by decide)
  · exact votes_ok v 3 3 0 (by decide) h0 h1 hm w (by decide) (by decide) (by decide) (by decide)
  · exact votes_bad v 4 (by decide) h0 h1 hm w (.inl rfl)
  · exact votes_bad v 5 (by decide) h0 h1 hm w (.inr rfl)

set_option maxHeartbeats 1000000 in
theorem again_ok (v u s e a b c : Int) (h : nx s e = (a, b, c, 0)) (h' : nx a e = (a, b, c, 0)) (hv0 : 0 ≤ v) (hv1 : v ≤ 255) (hs : v % 6 = s) (hu0 : 0 ≤ u) (hu1 : u ≤ 255) (he : 1 + u % 6 = e) (w : World) :
    Calls Try.prog 6 #[.int .u8 v, .int .u8 u] w fun r w' => r = .returned (.bool true) ∧ Below w.heap.size w w' := by
  have H := Lib.hid h
  have H' := Lib.hid h'
  clear h h'
  go_enter Try.func6, Try.ntmps6
  go_wp2_with fail
  refine (alive_true _).mono ?_
  rintro r w1 ⟨rfl, hb1⟩
  go_wp2_with fail
  refine (next_ok _ _ _ _ _ H.out _).mono ?_
  rintro r w2 ⟨rfl, hb2⟩
  go_wp2_with fail
  refine (next_ok _ _ _ _ _ H'.out _).mono ?_
  rintro r w3 ⟨rfl, hb3⟩
  obtain ⟨c0, c1, f0, f1, hz⟩ := keep2 hb3
  go_wp2
  go_ret
  refine ⟨rfl, ?_⟩
  have g1 := hb1.size
  have g2 := hb2.size
  exact (((hb1.trans (hb2.mono g1)).alloc (by omega) _).trans (hb3.mono (by simp; omega))).alloc (by omega) _

set_option maxHeartbeats 1000000 in
theorem again_bad (v u s e d : Int) (h : nx s e = (s, 0, 0, d)) (hd : d ≠ 0) (hv0 : 0 ≤ v) (hv1 : v ≤ 255) (hs : v % 6 = s) (hu0 : 0 ≤ u) (hu1 : u ≤ 255) (he : 1 + u % 6 = e) (w : World) :
    Calls Try.prog 6 #[.int .u8 v, .int .u8 u] w fun r w' => r = .returned (.bool true) ∧ Below w.heap.size w w' := by
  have H := Lib.hid h
  clear h
  go_enter Try.func6, Try.ntmps6
  go_wp2_with fail
  refine (alive_true _).mono ?_
  rintro r w1 ⟨rfl, hb1⟩
  go_wp2_with fail
  refine (next_bad _ _ _ _ _ _ H.out hd _).mono ?_
  rintro r w2 ⟨rfl, hb2⟩
  go_wp2
  go_ret
  refine ⟨rfl, ?_⟩
  have g1 := hb1.size
  have g2 := hb2.size
  exact (hb1.trans (hb2.mono g1)).alloc (by omega) _

theorem nx_again (s e : Int) (h0 : 0 ≤ s) (h5 : s ≤ 5) (h1 : 1 ≤ e) (h6 : e ≤ 6) :
    (∃ d, d ≠ 0 ∧ nx s e = (s, 0, 0, d)) ∨ ∃ a b c, nx s e = (a, b, c, 0) ∧ nx a e = (a, b, c, 0) := by
  obtain rfl | rfl | rfl | rfl | rfl | rfl : s = 0 ∨ s = 1 ∨ s = 2 ∨ s = 3 ∨ s = 4 ∨ s = 5 := by omega
  all_goals (obtain rfl | rfl | rfl | rfl | rfl | rfl : e = 1 ∨ e = 2 ∨ e = 3 ∨ e = 4 ∨ e = 5 ∨ e = 6 := by omega)
  all_goals first
    | exact .inr ⟨_, _, _, rfl, rfl⟩
    | exact .inl ⟨11, by decide, rfl⟩
    | exact .inl ⟨15, by decide, rfl⟩

theorem again_true (v u : Int) (h0 : 0 ≤ v) (h1 : v ≤ 255) (k0 : 0 ≤ u) (k1 : u ≤ 255) (w : World) :
    Calls Try.prog 6 #[.int .u8 v, .int .u8 u] w fun r w' => r = .returned (.bool true) ∧ Below w.heap.size w w' := by
  rcases nx_again (v % 6) (1 + u % 6) (by omega) (by omega) (by omega) (by omega) with ⟨d, hd, h⟩ | ⟨a, b, c, h, h'⟩
  · exact again_bad v u _ _ d h hd h0 h1 rfl k0 k1 rfl w
  · exact again_ok v u _ _ a b c h h' h0 h1 rfl k0 k1 rfl w
end Go.Proofs.Ytlillhkgghcghaa

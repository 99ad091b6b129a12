/-
  line.Leave: a transaction's leaves, of a line and of none. No other conditions.
-/
import Derived.Test.YtpbgdldaojpjkaaFind
import Derived.Deep.RegionHeld
namespace Go.Proofs.Ytpbgdldaojpjkaa
open Go.ChangeShapes Go.WideShapes Go.ChangeAt Go.RowKit
set_option linter.unusedVariables false

/-- a store into a block that isn't the line's -/
theorem LineX.set {w : World} {B g b j : Nat} {lim : Int} {l : Lot} {S : Nat → Prop} {u : Value} (h : LineX w B g lim l S) (hb : S b) : LineX (w.setCell ⟨b, j, none⟩ u) B g lim l S := by
  obtain ⟨v0, v1, hg, hB, o0, o1, n0, n1, n2, hS⟩ := h
  obtain ⟨h1, h2, h3, h4⟩ := hS b hb
  refine ⟨v0, v1, (Below.heap_setCell w ⟨b, j, none⟩ u g (fun e => h2 e.symm)).trans hg, hB, own_stored o0 h3 u, own_stored o1 h4 u, n0, n1, n2, fun k hk => ⟨by simpa using (hS k hk).1, (hS k hk).2⟩⟩

theorem set4 {W : World} {b : Nat} {x0 x1 x2 x3 : Value} (h0 : W.cell? ⟨b, 0, none⟩ = some x0) (h1 : W.cell? ⟨b, 1, none⟩ = some x1) (h2 : W.cell? ⟨b, 2, none⟩ = some x2) (h3 : W.cell? ⟨b, 3, none⟩ = some x3) (y0 y1 y2 y3 : Value) :
    ((((W.setCell ⟨b, 0, none⟩ y0).setCell ⟨b, 1, none⟩ y1).setCell ⟨b, 2, none⟩ y2).setCell ⟨b, 3, none⟩ y3).cell? ⟨b, 0, none⟩ = some y0 ∧
    ((((W.setCell ⟨b, 0, none⟩ y0).setCell ⟨b, 1, none⟩ y1).setCell ⟨b, 2, none⟩ y2).setCell ⟨b, 3, none⟩ y3).cell? ⟨b, 1, none⟩ = some y1 ∧
    ((((W.setCell ⟨b, 0, none⟩ y0).setCell ⟨b, 1, none⟩ y1).setCell ⟨b, 2, none⟩ y2).setCell ⟨b, 3, none⟩ y3).cell? ⟨b, 2, none⟩ = some y2 ∧
    ((((W.setCell ⟨b, 0, none⟩ y0).setCell ⟨b, 1, none⟩ y1).setCell ⟨b, 2, none⟩ y2).setCell ⟨b, 3, none⟩ y3).cell? ⟨b, 3, none⟩ = some y3 := by
  simp [go_sem, h0, h1, h2, h3]
theorem set4a {W : World} {b : Nat} {x0 x1 x2 x3 : Value} (h0 : W.cell? ⟨b, 0, none⟩ = some x0) (h1 : W.cell? ⟨b, 1, none⟩ = some x1) (h2 : W.cell? ⟨b, 2, none⟩ = some x2) (h3 : W.cell? ⟨b, 3, none⟩ = some x3) (y0 y1 y2 y3 : Value) (o : Obj) :
    (((((W.setCell ⟨b, 0, none⟩ y0).setCell ⟨b, 1, none⟩ y1).setCell ⟨b, 2, none⟩ y2).setCell ⟨b, 3, none⟩ y3).alloc o).cell? ⟨b, 0, none⟩ = some y0 ∧
    (((((W.setCell ⟨b, 0, none⟩ y0).setCell ⟨b, 1, none⟩ y1).setCell ⟨b, 2, none⟩ y2).setCell ⟨b, 3, none⟩ y3).alloc o).cell? ⟨b, 1, none⟩ = some y1 ∧
    (((((W.setCell ⟨b, 0, none⟩ y0).setCell ⟨b, 1, none⟩ y1).setCell ⟨b, 2, none⟩ y2).setCell ⟨b, 3, none⟩ y3).alloc o).cell? ⟨b, 2, none⟩ = some y2 ∧
    (((((W.setCell ⟨b, 0, none⟩ y0).setCell ⟨b, 1, none⟩ y1).setCell ⟨b, 2, none⟩ y2).setCell ⟨b, 3, none⟩ y3).alloc o).cell? ⟨b, 3, none⟩ = some y3 := by
  obtain ⟨a0, a1, a2, a3⟩ := set4 h0 h1 h2 h3 y0 y1 y2 y3
  generalize ((((W.setCell ⟨b, 0, none⟩ y0).setCell ⟨b, 1, none⟩ y1).setCell ⟨b, 2, none⟩ y2).setCell ⟨b, 3, none⟩ y3) = V at *
  exact ⟨Lib.cell?_alloc_some _ a0, Lib.cell?_alloc_some _ a1, Lib.cell?_alloc_some _ a2, Lib.cell?_alloc_some _ a3⟩

def LeaveOf (w w' : World) (B g : Nat) (lim : Int) (l : Lot) (S : Nat → Prop) (t : Int) (r : Ending) : Prop :=
  r = .returned (.tuple #[(leaveW l t).val, errV (leaveE l t)]) ∧ LineX w' B g lim (leaveL l t) S ∧ Below B w w' ∧ ∀ k, S k → w'.heap[k]? = w.heap[k]?

set_option maxHeartbeats 1000000 in
theorem leave_none (t : Int) (w : World) :
    Calls Try.prog 19 #[.pointer none, .int .i64 t] w fun r w' => r = .returned (.tuple #[.agg #[.int .i64 0, .int .i64 0, .int .i64 0, .bool false], .iface 55 (.int .i64 1)]) ∧ Below w.heap.size w w' := by
  have hbA : Below w.heap.size w (w.alloc (.cells #[.int .i64 0, .int .i64 0, .int .i64 0, .bool false] 33)) := (Below.refl _ _).alloc (Nat.le_refl _) _
  go_enter Try.func19, Try.ntmps19
  go_wp2_with fail
  refine (find_none t _).mono ?_
  rintro e w2 ⟨rfl, hb2⟩
  have hB2 := hbA.trans (hb2.mono (by simp))
  obtain ⟨kc, kf, kz⟩ := belowK hb2 (K := w.heap.size + 1) (by simp)
  have hne : w.heap.size ≠ w2.heap.size := by omega
  have hlt2 : w.heap.size < w2.heap.size := by omega
  have r0 := (kc w.heap.size 0 (by omega)).trans (by simp : _ = some (.int .i64 0))
  have r1 := (kc w.heap.size 1 (by omega)).trans (by simp : _ = some (.int .i64 0))
  have r2 := (kc w.heap.size 2 (by omega)).trans (by simp : _ = some (.int .i64 0))
  have r3 := (kc w.heap.size 3 (by omega)).trans (by simp : _ = some (.bool false))
  have f0 := (kf w.heap.size 0 (by omega)).trans (by simp : _ = false)
  have f1 := (kf w.heap.size 1 (by omega)).trans (by simp : _ = false)
  have f2 := (kf w.heap.size 2 (by omega)).trans (by simp : _ = false)
  have f3 := (kf w.heap.size 3 (by omega)).trans (by simp : _ = false)
  clear kc kf
  obtain ⟨q0, q1, q2, q3⟩ := set4a r0 r1 r2 r3 (.int .i64 0) (.int .i64 0) (.int .i64 0) (.bool false) (.cells #[.int .i64 0, .int .i64 0, .int .i64 0, .bool false] 33)
  go_wp2
  refine bodyPost_ret (by simp [results, Try.results19, go_sem, q0, q1, q2, q3] <;> rfl) rfl ⟨rfl, ?_⟩
  go_grown

theorem leaveL_same (l : Lot) (t : Int) (h : l.has t = false) : leaveL l t = l := by
  have hB := placeB_has l t
  rw [h] at hB
  unfold placeB at hB
  have := of_decide_eq_false hB
  unfold leaveL
  rw [if_neg (by omega), if_neg (by omega)]

set_option maxRecDepth 100000 in
set_option maxHeartbeats 8000000 in
theorem leave_any (B g : Nat) (lim : Int) (l : Lot) (S : Nat → Prop) (t : Int) (w : World) (hX : LineX w B g lim l S) (hBw : B ≤ w.heap.size) (hn : l.n ≤ 1000) :
    Calls Try.prog 19 #[.pointer (some ⟨g, 0, none⟩), .int .i64 t] w fun r w' => LeaveOf w w' B g lim l S t r := by
  have hbA : Below w.heap.size w (w.alloc (.cells #[.int .i64 0, .int .i64 0, .int .i64 0, .bool false] 33)) := (Below.refl _ _).alloc (Nat.le_refl _) _
  have HX := Lib.hid hX
  have hna : l.a.length ≤ 1000 := by unfold Lot.n at hn; omega
  have hnb : l.b.length ≤ 1000 := by unfold Lot.n at hn; omega
  have HSw : Hid (∀ k, S k → k < w.heap.size) := Lib.hid (fun k hk => by obtain ⟨_, _, _, _, _, _, _, _, _, h⟩ := HX.out; exact (h k hk).1)
  clear hX
  go_enter Try.func19, Try.ntmps19
  go_wp2_with fail
  refine (find_any B g lim l S t _ (HX.out.below hbA) hn).mono ?_
  rintro e w2 ⟨rfl, hb2⟩
  have hB2 := hbA.trans (hb2.mono (by simp))
  obtain ⟨kc, kf, kz⟩ := belowK hb2 (K := w.heap.size + 1) (by simp)
  have hne : w.heap.size ≠ w2.heap.size := by omega
  have hlt2 : w.heap.size < w2.heap.size := by omega
  have r0 := (kc w.heap.size 0 (by omega)).trans (by simp : _ = some (.int .i64 0))
  have r1 := (kc w.heap.size 1 (by omega)).trans (by simp : _ = some (.int .i64 0))
  have r2 := (kc w.heap.size 2 (by omega)).trans (by simp : _ = some (.int .i64 0))
  have r3 := (kc w.heap.size 3 (by omega)).trans (by simp : _ = some (.bool false))
  have f0 := (kf w.heap.size 0 (by omega)).trans (by simp : _ = false)
  have f1 := (kf w.heap.size 1 (by omega)).trans (by simp : _ = false)
  have f2 := (kf w.heap.size 2 (by omega)).trans (by simp : _ = false)
  have f3 := (kf w.heap.size 3 (by omega)).trans (by simp : _ = false)
  clear kc kf
  rcases hhas : l.has t with _ | _
  · have e0 : leaveW l t = Wt.none := by unfold leaveW; rw [if_neg (by rw [hhas]; decide)]
    have e1 : leaveE l t = 10 := by unfold leaveE; rw [if_neg (by rw [hhas]; decide)]
    have e2 := leaveL_same l t hhas
    rw [show (leaveW l t).val = .agg #[.int .i64 0, .int .i64 0, .int .i64 0, .bool false] from by rw [e0]; rfl, show errV (leaveE l t) = .iface 55 (.int .i64 10) from by rw [e1]; rfl]
    obtain ⟨q0, q1, q2, q3⟩ := set4a r0 r1 r2 r3 (.int .i64 0) (.int .i64 0) (.int .i64 0) (.bool false) (.cells #[.int .i64 0, .int .i64 0, .int .i64 0, .bool false] 33)
    go_wp2
    refine bodyPost_ret (by simp [results, Try.results19, go_sem, q0, q1, q2, q3] <;> rfl) rfl ?_
    have hbf : ∀ W, Below w.heap.size w W → LeaveOf w W B g lim l S t (.returned (.tuple #[.agg #[.int .i64 0, .int .i64 0, .int .i64 0, .bool false], .iface 55 (.int .i64 10)])) := fun W hW =>
      ⟨by rw [e0, e1]; rfl, by rw [e2]; exact HX.out.below hW, hW.mono hBw, HX.out.kept hW⟩
    refine hbf _ ?_
    go_grown
  · have e1 : leaveE l t = 0 := by unfold leaveE; rw [if_pos hhas]
    rw [show errV (leaveE l t) = .nilIface from by rw [e1]; rfl]
    generalize hW : leaveW l t = E
    obtain ⟨ex, es, em, eu⟩ := E
    have HWt := Lib.hid hW
    clear hW
    rw [show (⟨ex, es, em, eu⟩ : Wt).val = .agg #[.int .i64 ex, .int .i64 es, .int .i64 em, .bool eu] from rfl]
    obtain ⟨hBg, A0, A1, c0, c1, hl, ra, rb, z0, z1⟩ := (HX.out.below hB2).at
    have hbx : Below w2.heap.size w2 (w2.alloc (.cells #[.int .i64 ex, .int .i64 es, .int .i64 em, .bool eu] 33)) := (Below.refl _ _).alloc (Nat.le_refl _) _
    have HLA := Lib.hid (hl.below hbx)
    have RA := Lib.hid (ra.below hbx)
    have RB := Lib.hid (rb.below hbx)
    clear hl ra rb
    go_wp2_with fail
    refine (place_any g lim A0 A1 c0 c1 l t _ HLA.out RA.out RB.out (by omega) (by omega)).mono ?_
    rintro e w4 ⟨rfl, hb4⟩
    have hB3 := hB2.trans (hbx.mono hB2.size)
    have hB4 := hB3.trans (hb4.mono hB3.size)
    have hs24 : w2.heap.size + 1 ≤ w4.heap.size := by have := hb4.size; simp at this; omega
    have t0 := (hb4.cell (p := ⟨w.heap.size, 0, none⟩) (by simp; omega)).trans (Lib.cell?_alloc_some _ r0)
    have t1 := (hb4.cell (p := ⟨w.heap.size, 1, none⟩) (by simp; omega)).trans (Lib.cell?_alloc_some _ r1)
    have t2 := (hb4.cell (p := ⟨w.heap.size, 2, none⟩) (by simp; omega)).trans (Lib.cell?_alloc_some _ r2)
    have t3 := (hb4.cell (p := ⟨w.heap.size, 3, none⟩) (by simp; omega)).trans (Lib.cell?_alloc_some _ r3)
    have y0 := (hb4.cell (p := ⟨w2.heap.size, 0, none⟩) (by simp)).trans (by simp : _ = some (.int .i64 ex))
    have y1 := (hb4.cell (p := ⟨w2.heap.size, 1, none⟩) (by simp)).trans (by simp : _ = some (.int .i64 es))
    have y2 := (hb4.cell (p := ⟨w2.heap.size, 2, none⟩) (by simp)).trans (by simp : _ = some (.int .i64 em))
    have y3 := (hb4.cell (p := ⟨w2.heap.size, 3, none⟩) (by simp)).trans (by simp : _ = some (.bool eu))
    have g0 := (((hbx.trans (hb4.mono (by simp))).frozen (p := ⟨w.heap.size, 0, none⟩) hlt2)).trans f0
    have g1 := (((hbx.trans (hb4.mono (by simp))).frozen (p := ⟨w.heap.size, 1, none⟩) hlt2)).trans f1
    have g2 := (((hbx.trans (hb4.mono (by simp))).frozen (p := ⟨w.heap.size, 2, none⟩) hlt2)).trans f2
    have g3 := (((hbx.trans (hb4.mono (by simp))).frozen (p := ⟨w.heap.size, 3, none⟩) hlt2)).trans f3
    clear r0 r1 r2 r3 f0 f1 f2 f3
    obtain ⟨v0, v1, hgb, _, o0, o1, n0, n1, n2, hS⟩ := HX.out.more hB4 (fun k => S k ∨ k = w.heap.size ∨ k = w2.heap.size) (fun k hk => by
      rcases hk with h | rfl | rfl
      · exact .inl h
      · right; omega
      · right; omega)
    have HG := Lib.hid hgb
    have N0 := Lib.hid n0
    have N1 := Lib.hid n1
    have HS := Lib.hid hS
    have hq1 := cell_of7 hgb
    have hq2 := cell_of8 hgb
    have hgl := (Array.getElem?_eq_some_iff.1 hgb).1
    clear hgb n0 n1 hS hb2 hb4 hB3 kz
    rw [placeB_has, hhas]
    rcases place_cases l t hhas with ⟨p0, p1, p2, _, p4⟩ | ⟨p0, p1, p2, _, p4⟩
    · rw [p0, p1]
      obtain ⟨gr, cap, rfl, hBr, hgr⟩ := o0.form (by omega)
      have O0 := Lib.hid o0
      have O1 := Lib.hid o1
      have P4 := Lib.hid p4
      clear o0 o1 p4 p0 p1
      generalize hie : findW l.a t = i at *
      obtain ⟨na, hnae⟩ : ∃ n, l.a.length = n := ⟨_, rfl⟩
      have NA := Lib.hid hnae
      rw [hnae] at p2 hna hq1
      have hi0 : (0 : Int) ≤ i := by omega
      have hi1 : (i : Int) < na := by omega
      have hwr : IntKind.i64.wrap ((i : Int) + 1) = (i : Int) + 1 := IntWalk.i64_in _ (by omega)
      have hOd : w4.ownsRow B 33 4 (.slice (some ⟨gr, 0, none⟩) na cap) na (flatW l.a) := by rw [← hnae]; exact O0.out
      have OD := Lib.hid hOd
      have N0' : Value.ownBlock (.slice (some ⟨gr, 0, none⟩) na cap) ≠ some g := by rw [← hnae]; exact N0.out
      clear hOd hnae hie
      go_wp2
      refine wp_region_N (S := (fun w' => w'.cell? ⟨g, 1, none⟩ = some (.slice (some ⟨gr, 0, none⟩) na cap))) (fun i => !(i == 15)) (by kernel_rfl) ?_ (fun hHeld => ?_)
      · (try dsimp only)
        first
          | assumption
          | (refine cell_keep ?_ hq1 <;> (go_grown; done))
      refine wpAnyN_take [12, 13, 14, 15] (i := 0) (v := ?_) rfl (by kernel_rfl) (by kernel_rfl) (by kernel_rfl) (by kernel_rfl) (by kernel_rfl) (fun _ _ _ h => h) (Or.inl ⟨by rfl, ?_⟩) (by assumption) ?_
      rotate_left
      focus
        intro w hSw
        (try dsimp only at hSw)
        go_simp
        try with_reducible rfl
      try (unfold Act.put; dsimp only)
      refine wpAnyN_take [14, 15] (i := 1) (v := ?_) rfl (by kernel_rfl) (by kernel_rfl) (by kernel_rfl) (by kernel_rfl) (by kernel_rfl) (fun _ _ _ h => h) (Or.inl ⟨by rfl, ?_⟩) (by assumption) ?_
      rotate_left
      focus
        intro w hSw
        (try dsimp only at hSw)
        go_simp
        try with_reducible rfl
      try (unfold Act.put; dsimp only)
      refine wpAnyN_take [4, 5, 6, 7, 11, 14, 15] (i := 2) (v := ?_) rfl (by kernel_rfl) (by kernel_rfl) (by kernel_rfl) (by kernel_rfl) (by kernel_rfl) (fun _ _ _ h => h) (Or.inl ⟨by rfl, ?_⟩) (by assumption) ?_
      rotate_left
      focus
        intro w hSw
        (try dsimp only at hSw)
        go_simp
        try with_reducible rfl
      try (unfold Act.put; dsimp only)
      refine wpAnyN_take [6, 7, 11, 14, 15] (i := 3) (v := ?_) rfl (by kernel_rfl) (by kernel_rfl) (by kernel_rfl) (by kernel_rfl) (by kernel_rfl) (fun _ _ _ h => h) (Or.inl ⟨by rfl, ?_⟩) (by assumption) ?_
      rotate_left
      focus
        intro w hSw
        (try dsimp only at hSw)
        go_simp
        try with_reducible rfl
      try (unfold Act.put; dsimp only)
      refine wpAnyN_take [5, 6, 7, 11, 14, 15] (i := 4) (v := ?_) rfl (by kernel_rfl) (by kernel_rfl) (by kernel_rfl) (by kernel_rfl) (by kernel_rfl) (fun _ _ _ h => h) (Or.inl ⟨by rfl, ?_⟩) (by assumption) ?_
      rotate_left
      focus
        intro w hSw
        (try dsimp only at hSw)
        go_simp
        try with_reducible rfl
      try (unfold Act.put; dsimp only)
      refine wpAnyN_take [6, 7, 11, 14, 15] (i := 5) (v := ?_) rfl (by kernel_rfl) (by kernel_rfl) (by kernel_rfl) (by kernel_rfl) (by kernel_rfl) (fun _ _ _ h => h) (Or.inl ⟨by rfl, ?_⟩) (by assumption) ?_
      rotate_left
      focus
        intro w hSw
        (try dsimp only at hSw)
        go_simp
        try with_reducible rfl
      try (unfold Act.put; dsimp only)
      refine wpAnyN_take [7, 11, 14, 15] (i := 6) (v := ?_) rfl (by kernel_rfl) (by kernel_rfl) (by kernel_rfl) (by kernel_rfl) (by kernel_rfl) (fun _ _ _ h => h) (Or.inl ⟨by rfl, ?_⟩) (by assumption) ?_
      rotate_left
      focus
        intro w hSw
        (try dsimp only at hSw)
        go_simp
        try with_reducible rfl
      try (unfold Act.put; dsimp only)
      refine wpAnyN_take [11, 14, 15] (i := 7) (v := ?_) rfl (by kernel_rfl) (by kernel_rfl) (by kernel_rfl) (by kernel_rfl) (by kernel_rfl) (fun _ _ _ h => h) (Or.inl ⟨by rfl, ?_⟩) (by assumption) ?_
      rotate_left
      focus
        intro w hSw
        (try dsimp only at hSw)
        go_simp
        try with_reducible rfl
      try (unfold Act.put; dsimp only)
      refine wpAnyN_take [11, 14, 15] (i := 8) (v := ?_) rfl (by kernel_rfl) (by kernel_rfl) (by kernel_rfl) (by kernel_rfl) (by kernel_rfl) (fun _ _ _ h => h) (Or.inl ⟨by rfl, ?_⟩) (by assumption) ?_
      rotate_left
      focus
        intro w hSw
        (try dsimp only at hSw)
        go_simp
        try with_reducible rfl
      try (unfold Act.put; dsimp only)
      refine wpAnyN_take [10, 11, 14, 15] (i := 9) (v := ?_) rfl (by kernel_rfl) (by kernel_rfl) (by kernel_rfl) (by kernel_rfl) (by kernel_rfl) (fun _ _ _ h => h) (Or.inl ⟨by rfl, ?_⟩) (by assumption) ?_
      rotate_left
      focus
        intro w hSw
        (try dsimp only at hSw)
        go_simp
        try with_reducible rfl
      try (unfold Act.put; dsimp only)
      refine wpAnyN_take [11, 14, 15] (i := 10) (v := ?_) rfl (by kernel_rfl) (by kernel_rfl) (by kernel_rfl) (by kernel_rfl) (by kernel_rfl) (fun _ _ _ h => h) (Or.inl ⟨by rfl, ?_⟩) (by assumption) ?_
      rotate_left
      focus
        intro w hSw
        (try dsimp only at hSw)
        go_simp
        try with_reducible rfl
      try (unfold Act.put; dsimp only)
      refine wpAnyN_take [13, 14, 15] (i := 12) (v := ?_) rfl (by kernel_rfl) (by kernel_rfl) (by kernel_rfl) (by kernel_rfl) (by kernel_rfl) (fun _ _ _ h => h) (Or.inl ⟨by rfl, ?_⟩) (by assumption) ?_
      rotate_left
      focus
        intro w hSw
        (try dsimp only at hSw)
        go_simp
        try with_reducible rfl
      try (unfold Act.put; dsimp only)
      refine wpAnyN_take [14, 15] (i := 13) (v := ?_) rfl (by kernel_rfl) (by kernel_rfl) (by kernel_rfl) (by kernel_rfl) (by kernel_rfl) (fun _ _ _ h => h) (Or.inl ⟨by rfl, ?_⟩) (by assumption) ?_
      rotate_left
      focus
        intro w hSw
        (try dsimp only at hSw)
        go_simp
        try with_reducible rfl
      try (unfold Act.put; dsimp only)
      refine wpAnyN_ready (rs := [11]) (by kernel_rfl) (by simp) ?_
      refine AllReadyN.cons rfl (fun K hK => ?_) ?_
      · go_simp
        go_at_call 27
        refine (delete_any B gr na cap i l.a _ (own_below OD.out (by go_grown)) p2 (by omega)).mono ?_
        rintro e w7 ⟨rfl, hown7, hg7⟩
        have h7 := append_keep (v := .slice (some ⟨gr, 0, none⟩) na cap) hg7 (by go_grown) HG.out N0'
        have k7 : w7.cell? ⟨g, 1, none⟩ = some (.slice (some ⟨gr, 0, none⟩) na cap) := by rw [cell_of7 h7, NA.out]
        have kf7 := frozen_of7 h7 (j := 1)
        have H7 := Lib.hid h7
        have HW := Lib.hid hg7
        have HO := Lib.hid hown7
        clear h7 hg7 hown7
        dsimp only
        refine hK.out _ _ ?_ (fun hHeld => ?_)
        · (try dsimp only)
          first
            | assumption
            | (refine cell_keep ?_ hq1 <;> (go_grown; done))
        clear hK K
        try (unfold Act.put; dsimp only)
        refine wpAnyN_take [15] (i := 14) (v := ?_) rfl (by kernel_rfl) (by kernel_rfl) (by kernel_rfl) (by kernel_rfl) (by kernel_rfl) (fun _ _ _ h => h) (Or.inl ⟨by rfl, ?_⟩) (by assumption) ?_
        rotate_left
        focus
          intro w hSw
          (try dsimp only at hSw)
          go_simp
          try with_reducible rfl
        try (unfold Act.put; dsimp only)
        refine wpAnyN_ready (rs := [15]) (by kernel_rfl) (by simp) ?_
        refine AllReadyN.last rfl rfl (fun K hK => ?_) ?_
        · go_simp
          refine hK.out _ _ ?_
          clear hK K
          try (unfold Act.put; dsimp only)
          refine wpAnyN_done (by kernel_rfl) ?_ _
          have hown9 : w7.ownsRow B 33 4 (.slice (some ⟨gr, 0, none⟩) (na - 1) cap) (l.a.eraseIdx i).length (flatW (l.a.eraseIdx i)) := by
            have h := HO.out
            rw [List.length_eraseIdx, if_pos (by rw [NA.out]; exact p2), NA.out]; exact h
          have hr := store_0 (l := l) (a' := l.a.eraseIdx i) HG.out hBg O0.out O1.out N0.out N1.out n2 HS.out (by go_grown) (v' := .slice (some ⟨gr, 0, none⟩) (na - 1) cap) HW.out hown9 rfl (.inl rfl)
          have hbB : Below B w (w7.setCell ⟨g, 1, none⟩ (.slice (some ⟨gr, 0, none⟩) (na - 1) cap)) :=
            Below.setCell (Below.grown ((hB4.mono hBw).trans (show Below B w4 _ from Below.mono (show Below w4.heap.size w4 _ by go_grown) (by omega))) HW.out (by first | omega | (simp; omega)) (fun q hq => by cases hq; exact hBr)) hBg _
          generalize w7.setCell ⟨g, 1, none⟩ (.slice (some ⟨gr, 0, none⟩) (na - 1) cap) = w5 at *
          have hkr := hr.2 w.heap.size (.inr (.inl rfl))
          have hkb := hr.2 w2.heap.size (.inr (.inr rfl))
          have u0 := (World.cell?_of_block (a := ⟨w.heap.size, 0, none⟩) hkr).trans t0
          have u1 := (World.cell?_of_block (a := ⟨w.heap.size, 1, none⟩) hkr).trans t1
          have u2 := (World.cell?_of_block (a := ⟨w.heap.size, 2, none⟩) hkr).trans t2
          have u3 := (World.cell?_of_block (a := ⟨w.heap.size, 3, none⟩) hkr).trans t3
          have d0 := (World.frozen?_of_block (a := ⟨w.heap.size, 0, none⟩) hkr).trans g0
          have d1 := (World.frozen?_of_block (a := ⟨w.heap.size, 1, none⟩) hkr).trans g1
          have d2 := (World.frozen?_of_block (a := ⟨w.heap.size, 2, none⟩) hkr).trans g2
          have d3 := (World.frozen?_of_block (a := ⟨w.heap.size, 3, none⟩) hkr).trans g3
          have b0 := (World.cell?_of_block (a := ⟨w2.heap.size, 0, none⟩) hkb).trans y0
          have b1 := (World.cell?_of_block (a := ⟨w2.heap.size, 1, none⟩) hkb).trans y1
          have b2 := (World.cell?_of_block (a := ⟨w2.heap.size, 2, none⟩) hkb).trans y2
          have b3 := (World.cell?_of_block (a := ⟨w2.heap.size, 3, none⟩) hkb).trans y3
          have HR := Lib.hid hr
          have HBB := Lib.hid hbB
          obtain ⟨q0, q1, q2, q3⟩ := set4 u0 u1 u2 u3 (.int .i64 ex) (.int .i64 es) (.int .i64 em) (.bool eu)
          clear hr hbB hkr hkb
          go_wp2
          refine bodyPost_ret (by simp [results, Try.results19, go_sem, q0, q1, q2, q3] <;> rfl) rfl ⟨?_, ?_, ?_, ?_⟩
          · rw [HWt.out, e1]; rfl
          · rw [P4.out]
            refine LineX.sub ?_ S (fun k hk => .inl hk) (S := fun k => S k ∨ k = w.heap.size ∨ k = w2.heap.size)
            exact ((((HR.out.1.set (.inr (.inl rfl))).set (.inr (.inl rfl))).set (.inr (.inl rfl))).set (.inr (.inl rfl)))
          · exact (((HBB.out.setCell hBw _).setCell hBw _).setCell hBw _).setCell hBw _
          · intro k hk
            have hkw := HSw.out k hk
            have hne' : k ≠ w.heap.size := by omega
            rw [Below.heap_setCell _ _ _ k hne', Below.heap_setCell _ _ _ k hne', Below.heap_setCell _ _ _ k hne', Below.heap_setCell _ _ _ k hne', HR.out.2 k (.inl hk)]
            exact hB4.block k hkw
        exact AllReadyN.nil
      exact AllReadyN.nil
    · rw [p0, p1]
      obtain ⟨gr, cap, rfl, hBr, hgr⟩ := o1.form (by omega)
      have O0 := Lib.hid o0
      have O1 := Lib.hid o1
      have P4 := Lib.hid p4
      clear o0 o1 p4 p0 p1
      generalize hie : findW l.b t = i at *
      obtain ⟨na, hnae⟩ : ∃ n, l.b.length = n := ⟨_, rfl⟩
      have NA := Lib.hid hnae
      rw [hnae] at p2 hnb hq2
      have hi0 : (0 : Int) ≤ i := by omega
      have hi1 : (i : Int) < na := by omega
      have hwr : IntKind.i64.wrap ((i : Int) + 1) = (i : Int) + 1 := IntWalk.i64_in _ (by omega)
      have hOd : w4.ownsRow B 33 4 (.slice (some ⟨gr, 0, none⟩) na cap) na (flatW l.b) := by rw [← hnae]; exact O1.out
      have OD := Lib.hid hOd
      have N0' : Value.ownBlock (.slice (some ⟨gr, 0, none⟩) na cap) ≠ some g := by rw [← hnae]; exact N1.out
      clear hOd hnae hie
      go_wp2
      refine wp_region_N (S := (fun w' => w'.cell? ⟨g, 2, none⟩ = some (.slice (some ⟨gr, 0, none⟩) na cap))) (fun i => !(i == 15)) (by kernel_rfl) ?_ (fun hHeld => ?_)
      · (try dsimp only)
        first
          | assumption
          | (refine cell_keep ?_ hq2 <;> (go_grown; done))
      refine wpAnyN_take [12, 13, 14, 15] (i := 0) (v := ?_) rfl (by kernel_rfl) (by kernel_rfl) (by kernel_rfl) (by kernel_rfl) (by kernel_rfl) (fun _ _ _ h => h) (Or.inl ⟨by rfl, ?_⟩) (by assumption) ?_
      rotate_left
      focus
        intro w hSw
        (try dsimp only at hSw)
        go_simp
        try with_reducible rfl
      try (unfold Act.put; dsimp only)
      refine wpAnyN_take [14, 15] (i := 1) (v := ?_) rfl (by kernel_rfl) (by kernel_rfl) (by kernel_rfl) (by kernel_rfl) (by kernel_rfl) (fun _ _ _ h => h) (Or.inl ⟨by rfl, ?_⟩) (by assumption) ?_
      rotate_left
      focus
        intro w hSw
        (try dsimp only at hSw)
        go_simp
        try with_reducible rfl
      try (unfold Act.put; dsimp only)
      refine wpAnyN_take [4, 5, 6, 7, 11, 14, 15] (i := 2) (v := ?_) rfl (by kernel_rfl) (by kernel_rfl) (by kernel_rfl) (by kernel_rfl) (by kernel_rfl) (fun _ _ _ h => h) (Or.inl ⟨by rfl, ?_⟩) (by assumption) ?_
      rotate_left
      focus
        intro w hSw
        (try dsimp only at hSw)
        go_simp
        try with_reducible rfl
      try (unfold Act.put; dsimp only)
      refine wpAnyN_take [6, 7, 11, 14, 15] (i := 3) (v := ?_) rfl (by kernel_rfl) (by kernel_rfl) (by kernel_rfl) (by kernel_rfl) (by kernel_rfl) (fun _ _ _ h => h) (Or.inl ⟨by rfl, ?_⟩) (by assumption) ?_
      rotate_left
      focus
        intro w hSw
        (try dsimp only at hSw)
        go_simp
        try with_reducible rfl
      try (unfold Act.put; dsimp only)
      refine wpAnyN_take [5, 6, 7, 11, 14, 15] (i := 4) (v := ?_) rfl (by kernel_rfl) (by kernel_rfl) (by kernel_rfl) (by kernel_rfl) (by kernel_rfl) (fun _ _ _ h => h) (Or.inl ⟨by rfl, ?_⟩) (by assumption) ?_
      rotate_left
      focus
        intro w hSw
        (try dsimp only at hSw)
        go_simp
        try with_reducible rfl
      try (unfold Act.put; dsimp only)
      refine wpAnyN_take [6, 7, 11, 14, 15] (i := 5) (v := ?_) rfl (by kernel_rfl) (by kernel_rfl) (by kernel_rfl) (by kernel_rfl) (by kernel_rfl) (fun _ _ _ h => h) (Or.inl ⟨by rfl, ?_⟩) (by assumption) ?_
      rotate_left
      focus
        intro w hSw
        (try dsimp only at hSw)
        go_simp
        try with_reducible rfl
      try (unfold Act.put; dsimp only)
      refine wpAnyN_take [7, 11, 14, 15] (i := 6) (v := ?_) rfl (by kernel_rfl) (by kernel_rfl) (by kernel_rfl) (by kernel_rfl) (by kernel_rfl) (fun _ _ _ h => h) (Or.inl ⟨by rfl, ?_⟩) (by assumption) ?_
      rotate_left
      focus
        intro w hSw
        (try dsimp only at hSw)
        go_simp
        try with_reducible rfl
      try (unfold Act.put; dsimp only)
      refine wpAnyN_take [11, 14, 15] (i := 7) (v := ?_) rfl (by kernel_rfl) (by kernel_rfl) (by kernel_rfl) (by kernel_rfl) (by kernel_rfl) (fun _ _ _ h => h) (Or.inl ⟨by rfl, ?_⟩) (by assumption) ?_
      rotate_left
      focus
        intro w hSw
        (try dsimp only at hSw)
        go_simp
        try with_reducible rfl
      try (unfold Act.put; dsimp only)
      refine wpAnyN_take [11, 14, 15] (i := 8) (v := ?_) rfl (by kernel_rfl) (by kernel_rfl) (by kernel_rfl) (by kernel_rfl) (by kernel_rfl) (fun _ _ _ h => h) (Or.inl ⟨by rfl, ?_⟩) (by assumption) ?_
      rotate_left
      focus
        intro w hSw
        (try dsimp only at hSw)
        go_simp
        try with_reducible rfl
      try (unfold Act.put; dsimp only)
      refine wpAnyN_take [10, 11, 14, 15] (i := 9) (v := ?_) rfl (by kernel_rfl) (by kernel_rfl) (by kernel_rfl) (by kernel_rfl) (by kernel_rfl) (fun _ _ _ h => h) (Or.inl ⟨by rfl, ?_⟩) (by assumption) ?_
      rotate_left
      focus
        intro w hSw
        (try dsimp only at hSw)
        go_simp
        try with_reducible rfl
      try (unfold Act.put; dsimp only)
      refine wpAnyN_take [11, 14, 15] (i := 10) (v := ?_) rfl (by kernel_rfl) (by kernel_rfl) (by kernel_rfl) (by kernel_rfl) (by kernel_rfl) (fun _ _ _ h => h) (Or.inl ⟨by rfl, ?_⟩) (by assumption) ?_
      rotate_left
      focus
        intro w hSw
        (try dsimp only at hSw)
        go_simp
        try with_reducible rfl
      try (unfold Act.put; dsimp only)
      refine wpAnyN_take [13, 14, 15] (i := 12) (v := ?_) rfl (by kernel_rfl) (by kernel_rfl) (by kernel_rfl) (by kernel_rfl) (by kernel_rfl) (fun _ _ _ h => h) (Or.inl ⟨by rfl, ?_⟩) (by assumption) ?_
      rotate_left
      focus
        intro w hSw
        (try dsimp only at hSw)
        go_simp
        try with_reducible rfl
      try (unfold Act.put; dsimp only)
      refine wpAnyN_take [14, 15] (i := 13) (v := ?_) rfl (by kernel_rfl) (by kernel_rfl) (by kernel_rfl) (by kernel_rfl) (by kernel_rfl) (fun _ _ _ h => h) (Or.inl ⟨by rfl, ?_⟩) (by assumption) ?_
      rotate_left
      focus
        intro w hSw
        (try dsimp only at hSw)
        go_simp
        try with_reducible rfl
      try (unfold Act.put; dsimp only)
      refine wpAnyN_ready (rs := [11]) (by kernel_rfl) (by simp) ?_
      refine AllReadyN.cons rfl (fun K hK => ?_) ?_
      · go_simp
        go_at_call 27
        refine (delete_any B gr na cap i l.b _ (own_below OD.out (by go_grown)) p2 (by omega)).mono ?_
        rintro e w7 ⟨rfl, hown7, hg7⟩
        have h7 := append_keep (v := .slice (some ⟨gr, 0, none⟩) na cap) hg7 (by go_grown) HG.out N0'
        have k7 : w7.cell? ⟨g, 2, none⟩ = some (.slice (some ⟨gr, 0, none⟩) na cap) := by rw [cell_of8 h7, NA.out]
        have kf7 := frozen_of7 h7 (j := 2)
        have H7 := Lib.hid h7
        have HW := Lib.hid hg7
        have HO := Lib.hid hown7
        clear h7 hg7 hown7
        dsimp only
        refine hK.out _ _ ?_ (fun hHeld => ?_)
        · (try dsimp only)
          first
            | assumption
            | (refine cell_keep ?_ hq2 <;> (go_grown; done))
        clear hK K
        try (unfold Act.put; dsimp only)
        refine wpAnyN_take [15] (i := 14) (v := ?_) rfl (by kernel_rfl) (by kernel_rfl) (by kernel_rfl) (by kernel_rfl) (by kernel_rfl) (fun _ _ _ h => h) (Or.inl ⟨by rfl, ?_⟩) (by assumption) ?_
        rotate_left
        focus
          intro w hSw
          (try dsimp only at hSw)
          go_simp
          try with_reducible rfl
        try (unfold Act.put; dsimp only)
        refine wpAnyN_ready (rs := [15]) (by kernel_rfl) (by simp) ?_
        refine AllReadyN.last rfl rfl (fun K hK => ?_) ?_
        · go_simp
          refine hK.out _ _ ?_
          clear hK K
          try (unfold Act.put; dsimp only)
          refine wpAnyN_done (by kernel_rfl) ?_ _
          have hown9 : w7.ownsRow B 33 4 (.slice (some ⟨gr, 0, none⟩) (na - 1) cap) (l.b.eraseIdx i).length (flatW (l.b.eraseIdx i)) := by
            have h := HO.out
            rw [List.length_eraseIdx, if_pos (by rw [NA.out]; exact p2), NA.out]; exact h
          have hr := store_1 (l := l) (b' := l.b.eraseIdx i) HG.out hBg O0.out O1.out N0.out N1.out n2 HS.out (by go_grown) (v' := .slice (some ⟨gr, 0, none⟩) (na - 1) cap) HW.out hown9 rfl (.inl rfl)
          have hbB : Below B w (w7.setCell ⟨g, 2, none⟩ (.slice (some ⟨gr, 0, none⟩) (na - 1) cap)) :=
            Below.setCell (Below.grown ((hB4.mono hBw).trans (show Below B w4 _ from Below.mono (show Below w4.heap.size w4 _ by go_grown) (by omega))) HW.out (by first | omega | (simp; omega)) (fun q hq => by cases hq; exact hBr)) hBg _
          generalize w7.setCell ⟨g, 2, none⟩ (.slice (some ⟨gr, 0, none⟩) (na - 1) cap) = w5 at *
          have hkr := hr.2 w.heap.size (.inr (.inl rfl))
          have hkb := hr.2 w2.heap.size (.inr (.inr rfl))
          have u0 := (World.cell?_of_block (a := ⟨w.heap.size, 0, none⟩) hkr).trans t0
          have u1 := (World.cell?_of_block (a := ⟨w.heap.size, 1, none⟩) hkr).trans t1
          have u2 := (World.cell?_of_block (a := ⟨w.heap.size, 2, none⟩) hkr).trans t2
          have u3 := (World.cell?_of_block (a := ⟨w.heap.size, 3, none⟩) hkr).trans t3
          have d0 := (World.frozen?_of_block (a := ⟨w.heap.size, 0, none⟩) hkr).trans g0
          have d1 := (World.frozen?_of_block (a := ⟨w.heap.size, 1, none⟩) hkr).trans g1
          have d2 := (World.frozen?_of_block (a := ⟨w.heap.size, 2, none⟩) hkr).trans g2
          have d3 := (World.frozen?_of_block (a := ⟨w.heap.size, 3, none⟩) hkr).trans g3
          have b0 := (World.cell?_of_block (a := ⟨w2.heap.size, 0, none⟩) hkb).trans y0
          have b1 := (World.cell?_of_block (a := ⟨w2.heap.size, 1, none⟩) hkb).trans y1
          have b2 := (World.cell?_of_block (a := ⟨w2.heap.size, 2, none⟩) hkb).trans y2
          have b3 := (World.cell?_of_block (a := ⟨w2.heap.size, 3, none⟩) hkb).trans y3
          have HR := Lib.hid hr
          have HBB := Lib.hid hbB
          obtain ⟨q0, q1, q2, q3⟩ := set4 u0 u1 u2 u3 (.int .i64 ex) (.int .i64 es) (.int .i64 em) (.bool eu)
          clear hr hbB hkr hkb
          go_wp2
          refine bodyPost_ret (by simp [results, Try.results19, go_sem, q0, q1, q2, q3] <;> rfl) rfl ⟨?_, ?_, ?_, ?_⟩
          · rw [HWt.out, e1]; rfl
          · rw [P4.out]
            refine LineX.sub ?_ S (fun k hk => .inl hk) (S := fun k => S k ∨ k = w.heap.size ∨ k = w2.heap.size)
            exact ((((HR.out.1.set (.inr (.inl rfl))).set (.inr (.inl rfl))).set (.inr (.inl rfl))).set (.inr (.inl rfl)))
          · exact (((HBB.out.setCell hBw _).setCell hBw _).setCell hBw _).setCell hBw _
          · intro k hk
            have hkw := HSw.out k hk
            have hne' : k ≠ w.heap.size := by omega
            rw [Below.heap_setCell _ _ _ k hne', Below.heap_setCell _ _ _ k hne', Below.heap_setCell _ _ _ k hne', Below.heap_setCell _ _ _ k hne', HR.out.2 k (.inl hk)]
            exact hB4.block k hkw
        exact AllReadyN.nil
      exact AllReadyN.nil
end Go.Proofs.Ytpbgdldaojpjkaa

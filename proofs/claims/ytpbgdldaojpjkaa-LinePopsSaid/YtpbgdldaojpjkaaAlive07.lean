/-
  catchboltlaw07.alive: the document's example. No conditions.
-/
import Derived.Test.YtpbgdldaojpjkaaAhead
namespace Go.Proofs.Ytpbgdldaojpjkaa
open Go.ChangeShapes Go.WideShapes Go.ChangeAt Go.RowKit
set_option linter.unusedVariables false

/-- a line that was just made -/
theorem new_line (w : World) (lim : Int) : LineX (w.alloc (.cells #[.int .i64 lim, .slice none 0 0, .slice none 0 0] 58)) w.heap.size w.heap.size lim ⟨[], []⟩ (fun _ => False) :=
  ⟨.slice none 0 0, .slice none 0 0, heap_alloc_new w _, Nat.le_refl _, World.ownsRow_nil _ _ _ _, World.ownsRow_nil _ _ _ _, by simp [Value.ownBlock], by simp [Value.ownBlock], by simp [Value.ownBlock], fun _ h => h.elim⟩

theorem blk_cells {w : World} {b : Nat} {x s m : Int} {u : Bool} {T : TypeId} (h : w.heap[b]? = some (.cells #[.int .i64 x, .int .i64 s, .int .i64 m, .bool u] T (0, 0))) : w.cell? ⟨b, 0, none⟩ = some (.int .i64 x) ∧ w.cell? ⟨b, 1, none⟩ = some (.int .i64 s) ∧ w.cell? ⟨b, 2, none⟩ = some (.int .i64 m) ∧ w.cell? ⟨b, 3, none⟩ = some (.bool u) := by
  simp [World.cell?, h]

theorem heap_keep2 {w5 W w6 : World} {b : Nat} {o : Obj} (h0 : Below w5.heap.size w5 W) (hb : Below W.heap.size W w6) (h : w5.heap[b]? = some o) : w6.heap[b]? = some o := by
  have hl := (Array.getElem?_eq_some_iff.1 h).1
  exact (hb.block b (Nat.lt_of_lt_of_le hl h0.size)).trans ((h0.block b hl).trans h)
theorem rdw_blk3 {w : World} {b : Nat} {x s m y t n z p q : Int} {u v r : Bool} {T : TypeId} (h : w.heap[b]? = some (.cells #[.int .i64 x, .int .i64 s, .int .i64 m, .bool u, .int .i64 y, .int .i64 t, .int .i64 n, .bool v, .int .i64 z, .int .i64 p, .int .i64 q, .bool r] T (0, 0))) : RdW w (some ⟨b, 0, none⟩) [⟨x, s, m, u⟩, ⟨y, t, n, v⟩, ⟨z, p, q, r⟩] :=
  ⟨b, 0, fun _ => ⟨rfl, (Array.getElem?_eq_some_iff.1 h).1⟩, fun i hi => by
    have : i = 0 ∨ i = 1 ∨ i = 2 := by simp at hi; omega
    rcases this with rfl | rfl | rfl <;> (unfold Cells4; simp [World.cell?, h])⟩
theorem rdw_blk2 {w : World} {b : Nat} {x s m y t n : Int} {u v : Bool} {T : TypeId} (h : w.heap[b]? = some (.cells #[.int .i64 x, .int .i64 s, .int .i64 m, .bool u, .int .i64 y, .int .i64 t, .int .i64 n, .bool v] T (0, 0))) : RdW w (some ⟨b, 0, none⟩) [⟨x, s, m, u⟩, ⟨y, t, n, v⟩] :=
  ⟨b, 0, fun _ => ⟨rfl, (Array.getElem?_eq_some_iff.1 h).1⟩, fun i hi => by
    have : i = 0 ∨ i = 1 := by simp at hi; omega
    rcases this with rfl | rfl <;> (unfold Cells4; simp [World.cell?, h])⟩

set_option maxRecDepth 100000 in
set_option maxHeartbeats 8000000 in
theorem alive_true (w : World) : Calls Try.prog 7 #[] w fun e w' => e = .returned (.bool true) ∧ Below w.heap.size w w' := by
  go_enter Try.func7, Try.ntmps7
  go_wp2_with fail
  refine (new_ok 3 _ (by omega) (by omega)).mono ?_
  rintro e w1 ⟨rfl, hw1⟩
  have hX := new_line w 3
  have hb1 : Below w.heap.size w (w.alloc (.cells #[.int .i64 3, .slice none 0 0, .slice none 0 0] 58)) := (Below.refl _ _).alloc (Nat.le_refl _) _
  have hs1 : (w.alloc (.cells #[.int .i64 3, .slice none 0 0, .slice none 0 0] 58)).heap.size = w.heap.size + 1 := by simp
  rw [hw1] at hX hb1 hs1
  have hle1 : w.heap.size < w1.heap.size := by omega
  clear hw1 hs1
  have HX := Lib.hid hX
  have HB1 := Lib.hid hb1
  clear hX hb1
  go_wp2_with fail
  have hb2 : Below w1.heap.size w1 (((w1.alloc (.cells #[.int .i64 1, .int .i64 1, .int .i64 3, .bool false] 33)).alloc (.cells #[.int .i64 2, .int .i64 1, .int .i64 3, .bool false] 33)).alloc (.cells #[.int .i64 3, .int .i64 1, .int .i64 4, .bool true] 33)) := ((((Below.refl _ _).alloc (Nat.le_refl _) _).alloc (by simp) _).alloc (by simp; omega) _)
  have hz1 : (((w1.alloc (.cells #[.int .i64 1, .int .i64 1, .int .i64 3, .bool false] 33)).alloc (.cells #[.int .i64 2, .int .i64 1, .int .i64 3, .bool false] 33)).alloc (.cells #[.int .i64 3, .int .i64 1, .int .i64 4, .bool true] 33)).heap[w1.heap.size]? = some (.cells #[.int .i64 1, .int .i64 1, .int .i64 3, .bool false] 33 (0, 0)) := by (repeat rw [heap_push]); first | (simp; done) | (simp; omega)
  have hz2 : (((w1.alloc (.cells #[.int .i64 1, .int .i64 1, .int .i64 3, .bool false] 33)).alloc (.cells #[.int .i64 2, .int .i64 1, .int .i64 3, .bool false] 33)).alloc (.cells #[.int .i64 3, .int .i64 1, .int .i64 4, .bool true] 33)).heap[w1.heap.size + 1]? = some (.cells #[.int .i64 2, .int .i64 1, .int .i64 3, .bool false] 33 (0, 0)) := by (repeat rw [heap_push]); first | (simp; done) | (simp; omega)
  have hz3 : (((w1.alloc (.cells #[.int .i64 1, .int .i64 1, .int .i64 3, .bool false] 33)).alloc (.cells #[.int .i64 2, .int .i64 1, .int .i64 3, .bool false] 33)).alloc (.cells #[.int .i64 3, .int .i64 1, .int .i64 4, .bool true] 33)).heap[w1.heap.size + 1 + 1]? = some (.cells #[.int .i64 3, .int .i64 1, .int .i64 4, .bool true] 33 (0, 0)) := by (repeat rw [heap_push]); first | (simp; done) | (simp; omega)
  have hs2 : (((w1.alloc (.cells #[.int .i64 1, .int .i64 1, .int .i64 3, .bool false] 33)).alloc (.cells #[.int .i64 2, .int .i64 1, .int .i64 3, .bool false] 33)).alloc (.cells #[.int .i64 3, .int .i64 1, .int .i64 4, .bool true] 33)).heap.size = w1.heap.size + 3 := by simp
  have HX2 := Lib.hid (HX.out.more hb2 (fun k => w1.heap.size ≤ k ∧ k < w1.heap.size + 3) (fun k hk => .inr (by rw [hs2]; exact hk)))
  have HB2 := Lib.hid (HB1.out.trans (hb2.mono (by omega)))
  generalize ((w1.alloc (.cells #[.int .i64 1, .int .i64 1, .int .i64 3, .bool false] 33)).alloc (.cells #[.int .i64 2, .int .i64 1, .int .i64 3, .bool false] 33)).alloc (.cells #[.int .i64 3, .int .i64 1, .int .i64 4, .bool true] 33) = w2 at *
  have HZ1 := Lib.hid hz1
  have HZ2 := Lib.hid hz2
  have HZ3 := Lib.hid hz3
  clear hb2 hz1 hz2 hz3
  refine (push_any w.heap.size w.heap.size 3 ⟨[], []⟩ (fun k => w1.heap.size ≤ k ∧ k < w1.heap.size + 3) 1 1 3 false w2 HX2.out (by omega) (by decide)).mono ?_
  rintro e w3 ⟨rfl, hX3, hB3, hk3⟩
  rw [show errV (pushE ⟨[], []⟩ 3 ⟨1, 1, 3, false⟩) = .nilIface from rfl]
  have HX3 := Lib.hid (show LineX w3 w.heap.size w.heap.size 3 ⟨[], [⟨1, 1, 3, false⟩]⟩ (fun k => w1.heap.size ≤ k ∧ k < w1.heap.size + 3) from hX3)
  have hs3 := hB3.size
  have HB3 := Lib.hid (HB2.out.trans hB3)
  have HY1 := Lib.hid ((hk3 w1.heap.size ⟨by omega, by omega⟩).trans HZ1.out)
  have HY2 := Lib.hid ((hk3 (w1.heap.size + 1) ⟨by omega, by omega⟩).trans HZ2.out)
  have HY3 := Lib.hid ((hk3 (w1.heap.size + 1 + 1) ⟨by omega, by omega⟩).trans HZ3.out)
  clear hX3 hB3 hk3
  obtain ⟨b0, b1, b2, b3⟩ := blk_cells HY2.out
  go_wp2_with fail
  refine (push_any w.heap.size w.heap.size 3 ⟨[], [⟨1, 1, 3, false⟩]⟩ (fun k => w1.heap.size ≤ k ∧ k < w1.heap.size + 3) 2 1 3 false w3 HX3.out (by omega) (by decide)).mono ?_
  rintro e w4 ⟨rfl, hX4, hB4, hk4⟩
  rw [show errV (pushE ⟨[], [⟨1, 1, 3, false⟩]⟩ 3 ⟨2, 1, 3, false⟩) = .nilIface from rfl]
  have HX4 := Lib.hid (show LineX w4 w.heap.size w.heap.size 3 ⟨[], [⟨1, 1, 3, false⟩, ⟨2, 1, 3, false⟩]⟩ (fun k => w1.heap.size ≤ k ∧ k < w1.heap.size + 3) from hX4)
  have hs4 := hB4.size
  have HB4 := Lib.hid (HB3.out.trans hB4)
  have HU1 := Lib.hid ((hk4 w1.heap.size ⟨by omega, by omega⟩).trans HY1.out)
  have HU2 := Lib.hid ((hk4 (w1.heap.size + 1) ⟨by omega, by omega⟩).trans HY2.out)
  have HU3 := Lib.hid ((hk4 (w1.heap.size + 1 + 1) ⟨by omega, by omega⟩).trans HY3.out)
  clear hX4 hB4 hk4 b0 b1 b2 b3
  obtain ⟨b0, b1, b2, b3⟩ := blk_cells HU3.out
  go_wp2_with fail
  refine (push_any w.heap.size w.heap.size 3 ⟨[], [⟨1, 1, 3, false⟩, ⟨2, 1, 3, false⟩]⟩ (fun k => w1.heap.size ≤ k ∧ k < w1.heap.size + 3) 3 1 4 true w4 HX4.out (by omega) (by decide)).mono ?_
  rintro e w5 ⟨rfl, hX5, hB5, hk5⟩
  rw [show errV (pushE ⟨[], [⟨1, 1, 3, false⟩, ⟨2, 1, 3, false⟩]⟩ 3 ⟨3, 1, 4, true⟩) = .nilIface from rfl]
  have HX5 := Lib.hid (show LineX w5 w.heap.size w.heap.size 3 ⟨[⟨3, 1, 4, true⟩], [⟨1, 1, 3, false⟩, ⟨2, 1, 3, false⟩]⟩ (fun k => w1.heap.size ≤ k ∧ k < w1.heap.size + 3) from hX5)
  have hs5 := hB5.size
  have HB5 := Lib.hid (HB4.out.trans hB5)
  have HV1 := Lib.hid ((hk5 w1.heap.size ⟨by omega, by omega⟩).trans HU1.out)
  have HV2 := Lib.hid ((hk5 (w1.heap.size + 1) ⟨by omega, by omega⟩).trans HU2.out)
  have HV3 := Lib.hid ((hk5 (w1.heap.size + 1 + 1) ⟨by omega, by omega⟩).trans HU3.out)
  clear hX5 hB5 hk5 b0 b1 b2 b3
  obtain ⟨a0, a1, a2, a3⟩ := blk_cells HV1.out
  obtain ⟨b0, b1, b2, b3⟩ := blk_cells HV2.out
  obtain ⟨c0, c1, c2, c3⟩ := blk_cells HV3.out
  go_wp2
  refine wp_region_N (S := (fun w' => (w'.cell? ⟨w1.heap.size, 0, none⟩ = some (.int .i64 1) ∧ w'.cell? ⟨w1.heap.size, 1, none⟩ = some (.int .i64 1) ∧ w'.cell? ⟨w1.heap.size, 2, none⟩ = some (.int .i64 3) ∧ w'.cell? ⟨w1.heap.size, 3, none⟩ = some (.bool false)) ∧ (w'.cell? ⟨w1.heap.size + 1, 0, none⟩ = some (.int .i64 2) ∧ w'.cell? ⟨w1.heap.size + 1, 1, none⟩ = some (.int .i64 1) ∧ w'.cell? ⟨w1.heap.size + 1, 2, none⟩ = some (.int .i64 3) ∧ w'.cell? ⟨w1.heap.size + 1, 3, none⟩ = some (.bool false)) ∧ (w'.cell? ⟨w1.heap.size + 1 + 1, 0, none⟩ = some (.int .i64 3) ∧ w'.cell? ⟨w1.heap.size + 1 + 1, 1, none⟩ = some (.int .i64 1) ∧ w'.cell? ⟨w1.heap.size + 1 + 1, 2, none⟩ = some (.int .i64 4) ∧ w'.cell? ⟨w1.heap.size + 1 + 1, 3, none⟩ = some (.bool true)))) (fun i => !(i == 15)) (by kernel_rfl) ?_ (fun hHeld => ?_)
  · (try dsimp only)
    first
      | (refine ⟨⟨?_, ?_, ?_, ?_⟩, ⟨?_, ?_, ?_, ?_⟩, ?_, ?_, ?_, ?_⟩ <;> with_reducible assumption)
      | (refine ⟨⟨cell_keep ?_ a0, cell_keep ?_ a1, cell_keep ?_ a2, cell_keep ?_ a3⟩, ⟨cell_keep ?_ b0, cell_keep ?_ b1, cell_keep ?_ b2, cell_keep ?_ b3⟩, cell_keep ?_ c0, cell_keep ?_ c1, cell_keep ?_ c2, cell_keep ?_ c3⟩ <;> (go_grown; done))
  refine wpAnyN_take [1, 6, 7, 8, 9, 10, 11, 12, 13, 14, 15] (i := 0) (v := ?_) rfl (by kernel_rfl) (by kernel_rfl) (by kernel_rfl) (by kernel_rfl) (by kernel_rfl) (fun _ _ _ h => h) (Or.inl ⟨by rfl, ?_⟩) (by assumption) ?_
  rotate_left
  focus
    intro w hSw
    (try dsimp only at hSw)
    go_simp
    try with_reducible rfl
  try (unfold Act.put; dsimp only)
  refine wpAnyN_take [5, 6, 7, 8, 9, 10, 11, 12, 13, 14, 15] (i := 2) (v := ?_) rfl (by kernel_rfl) (by kernel_rfl) (by kernel_rfl) (by kernel_rfl) (by kernel_rfl) (fun _ _ _ h => h) (Or.inl ⟨by rfl, ?_⟩) (by assumption) ?_
  rotate_left
  focus
    intro w hSw
    (try dsimp only at hSw)
    go_simp
    try with_reducible rfl
  try (unfold Act.put; dsimp only)
  refine wpAnyN_take [5, 6, 7, 8, 9, 10, 11, 12, 13, 14, 15] (i := 3) (v := ?_) rfl (by kernel_rfl) (by kernel_rfl) (by kernel_rfl) (by kernel_rfl) (by kernel_rfl) (fun _ _ _ h => h) (Or.inl ⟨by rfl, ?_⟩) (by assumption) ?_
  rotate_left
  focus
    intro w hSw
    (try dsimp only at hSw)
    go_simp
    try with_reducible rfl
  try (unfold Act.put; dsimp only)
  refine wpAnyN_take [5, 6, 7, 8, 9, 10, 11, 12, 13, 14, 15] (i := 4) (v := ?_) rfl (by kernel_rfl) (by kernel_rfl) (by kernel_rfl) (by kernel_rfl) (by kernel_rfl) (fun _ _ _ h => h) (Or.inl ⟨by rfl, ?_⟩) (by assumption) ?_
  rotate_left
  focus
    intro w hSw
    (try dsimp only at hSw)
    go_simp
    try with_reducible rfl
  try (unfold Act.put; dsimp only)
  refine wpAnyN_ready (rs := [1, 5]) (by kernel_rfl) (by simp) ?_
  refine AllReadyN.cons rfl (fun K hK => ?_) ?_
  · go_simp
    go_at_call 14
    refine (all_x w.heap.size w.heap.size 3 _ (fun k => w1.heap.size ≤ k ∧ k < w1.heap.size + 3) _ (HX5.out.below (by go_grown)) (by decide)).mono ?_
    rintro e w6 ⟨⟨v6, rfl, hown6⟩, hb6⟩
    have hown6' : w6.ownsRow _ 33 4 v6 3 (flatW [⟨3, 1, 4, true⟩, ⟨1, 1, 3, false⟩, ⟨2, 1, 3, false⟩]) := hown6
    obtain ⟨_, A6, c6, rfl, _, r6⟩ := rdw_of_own hown6'
    have HR6 := Lib.hid r6
    clear hown6'
    have HB6 := Lib.hid hb6
    have hq1 := heap_keep2 (w5 := w5) (by go_grown) hb6 HV1.out
    have hq2 := heap_keep2 (w5 := w5) (by go_grown) hb6 HV2.out
    have hq3 := heap_keep2 (w5 := w5) (by go_grown) hb6 HV3.out
    obtain ⟨a0, a1, a2, a3⟩ := blk_cells hq1
    obtain ⟨b0, b1, b2, b3⟩ := blk_cells hq2
    obtain ⟨c0, c1, c2, c3⟩ := blk_cells hq3
    have HX6 := Lib.hid ((HX5.out.below (show Below w5.heap.size w5 _ by go_grown)).below hb6)
    have HQ1 := Lib.hid hq1
    have HQ2 := Lib.hid hq2
    have HQ3 := Lib.hid hq3
    have HBB6 := Lib.hid ((HB5.out.trans (Below.mono (show Below w5.heap.size w5 _ by go_grown) (by omega))).trans (hb6.mono (by have := HB5.out.size; first | omega | (simp; omega))))
    clear hown6 r6 hb6 hq1 hq2 hq3
    dsimp only
    refine hK.out _ _ ?_ (fun hHeld => ?_)
    · (try dsimp only)
      first
        | (refine ⟨⟨?_, ?_, ?_, ?_⟩, ⟨?_, ?_, ?_, ?_⟩, ?_, ?_, ?_, ?_⟩ <;> with_reducible assumption)
        | (refine ⟨⟨cell_keep ?_ a0, cell_keep ?_ a1, cell_keep ?_ a2, cell_keep ?_ a3⟩, ⟨cell_keep ?_ b0, cell_keep ?_ b1, cell_keep ?_ b2, cell_keep ?_ b3⟩, cell_keep ?_ c0, cell_keep ?_ c1, cell_keep ?_ c2, cell_keep ?_ c3⟩ <;> (go_grown; done))
    clear hK K
    try (unfold Act.put; dsimp only)
    refine wpAnyN_ready (rs := [5]) (by kernel_rfl) (by simp) ?_
    refine AllReadyN.cons rfl (fun K hK => ?_) ?_
    · go_simp
      refine hK.out _ _ ?_ (fun hHeld => ?_)
      · (try dsimp only)
        first
          | (refine ⟨⟨?_, ?_, ?_, ?_⟩, ⟨?_, ?_, ?_, ?_⟩, ?_, ?_, ?_, ?_⟩ <;> with_reducible assumption)
          | (refine ⟨⟨cell_keep ?_ a0, cell_keep ?_ a1, cell_keep ?_ a2, cell_keep ?_ a3⟩, ⟨cell_keep ?_ b0, cell_keep ?_ b1, cell_keep ?_ b2, cell_keep ?_ b3⟩, cell_keep ?_ c0, cell_keep ?_ c1, cell_keep ?_ c2, cell_keep ?_ c3⟩ <;> (go_grown; done))
      clear hK K
      try (unfold Act.put; dsimp only)
      refine wpAnyN_ready (rs := [6]) (by kernel_rfl) (by simp) ?_
      refine AllReadyN.cons rfl (fun K hK => ?_) ?_
      · go_simp
        go_at_call 13
        refine (same_true A6 _ 3 c6 3 [⟨3, 1, 4, true⟩, ⟨1, 1, 3, false⟩, ⟨2, 1, 3, false⟩] _ (HR6.out.below (by go_grown)) (rdw_blk3 (T := 33) (by first | ((repeat (first | rw [heap_drew] | rw [heap_push])); simp; done) | (rw [HB6.out.block _ (by first | omega | (simp; done) | (simp; omega))]; (repeat (first | rw [heap_drew] | rw [heap_push])); simp; done))) rfl (by omega)).mono ?_
        rintro e w7 ⟨rfl, hb7⟩
        have hq1 := heap_keep2 (w5 := w6) (by go_grown) hb7 HQ1.out
        have hq2 := heap_keep2 (w5 := w6) (by go_grown) hb7 HQ2.out
        have hq3 := heap_keep2 (w5 := w6) (by go_grown) hb7 HQ3.out
        obtain ⟨a0, a1, a2, a3⟩ := blk_cells hq1
        obtain ⟨b0, b1, b2, b3⟩ := blk_cells hq2
        obtain ⟨c0, c1, c2, c3⟩ := blk_cells hq3
        have HX7 := Lib.hid ((HX6.out.below (show Below w6.heap.size w6 _ by go_grown)).below hb7)
        have HQ1 := Lib.hid hq1
        have HQ2 := Lib.hid hq2
        have HQ3 := Lib.hid hq3
        have HBB7 := Lib.hid ((HBB6.out.trans (Below.mono (show Below w6.heap.size w6 _ by go_grown) HBB6.out.size)).trans (hb7.mono (by have := HBB6.out.size; first | omega | (simp; omega))))
        have HB7b := Lib.hid hb7
        clear hb7 hq1 hq2 hq3
        dsimp only
        refine hK.out _ _ ?_ (fun hHeld => ?_)
        · (try dsimp only)
          first
            | (refine ⟨⟨?_, ?_, ?_, ?_⟩, ⟨?_, ?_, ?_, ?_⟩, ?_, ?_, ?_, ?_⟩ <;> with_reducible assumption)
            | (refine ⟨⟨cell_keep ?_ a0, cell_keep ?_ a1, cell_keep ?_ a2, cell_keep ?_ a3⟩, ⟨cell_keep ?_ b0, cell_keep ?_ b1, cell_keep ?_ b2, cell_keep ?_ b3⟩, cell_keep ?_ c0, cell_keep ?_ c1, cell_keep ?_ c2, cell_keep ?_ c3⟩ <;> (go_grown; done))
        clear hK K
        try (unfold Act.put; dsimp only)
        refine wpAnyN_take [8, 9, 10, 11, 12, 13, 14, 15] (i := 7) (v := ?_) rfl (by kernel_rfl) (by kernel_rfl) (by kernel_rfl) (by kernel_rfl) (by kernel_rfl) (fun _ _ _ h => h) (Or.inl ⟨by rfl, ?_⟩) (by assumption) ?_
        rotate_left
        focus
          intro w hSw
          (try dsimp only at hSw)
          go_simp
          try with_reducible rfl
        try (unfold Act.put; dsimp only)
        refine wpAnyN_take [9, 13, 14, 15] (i := 8) (v := ?_) rfl (by kernel_rfl) (by kernel_rfl) (by kernel_rfl) (by kernel_rfl) (by kernel_rfl) (fun _ _ _ h => h) (Or.inl ⟨by rfl, ?_⟩) (by assumption) ?_
        rotate_left
        focus
          intro w hSw
          (try dsimp only at hSw)
          go_simp
          try with_reducible rfl
        try (unfold Act.put; dsimp only)
        refine wpAnyN_take [12, 13, 14, 15] (i := 10) (v := ?_) rfl (by kernel_rfl) (by kernel_rfl) (by kernel_rfl) (by kernel_rfl) (by kernel_rfl) (fun _ _ _ h => h) (Or.inl ⟨by rfl, ?_⟩) (by assumption) ?_
        rotate_left
        focus
          intro w hSw
          (try dsimp only at hSw)
          go_simp
          try with_reducible rfl
        try (unfold Act.put; dsimp only)
        refine wpAnyN_take [12, 13, 14, 15] (i := 11) (v := ?_) rfl (by kernel_rfl) (by kernel_rfl) (by kernel_rfl) (by kernel_rfl) (by kernel_rfl) (fun _ _ _ h => h) (Or.inl ⟨by rfl, ?_⟩) (by assumption) ?_
        rotate_left
        focus
          intro w hSw
          (try dsimp only at hSw)
          go_simp
          try with_reducible rfl
        try (unfold Act.put; dsimp only)
        refine wpAnyN_ready (rs := [9, 12]) (by kernel_rfl) (by simp) ?_
        refine AllReadyN.cons rfl (fun K hK => ?_) ?_
        · go_simp
          go_at_call 17
          refine (ahead_any w.heap.size w.heap.size 3 _ (fun k => w1.heap.size ≤ k ∧ k < w1.heap.size + 3) 2 _ (HX7.out.below (by go_grown)) (by decide)).mono ?_
          rintro e w8 ⟨⟨A8, n8, c8, rfl, hn8, _, r8⟩, hb8⟩
          have hn82 : n8 = 2 := hn8.trans (by decide)
          subst hn82
          have HR8 := Lib.hid (show RdW w8 A8 [⟨3, 1, 4, true⟩, ⟨1, 1, 3, false⟩] from r8)
          clear r8 hn8
          have hq1 := heap_keep2 (w5 := w7) (by go_grown) hb8 HQ1.out
          have hq2 := heap_keep2 (w5 := w7) (by go_grown) hb8 HQ2.out
          have hq3 := heap_keep2 (w5 := w7) (by go_grown) hb8 HQ3.out
          obtain ⟨a0, a1, a2, a3⟩ := blk_cells hq1
          obtain ⟨b0, b1, b2, b3⟩ := blk_cells hq2
          obtain ⟨c0, c1, c2, c3⟩ := blk_cells hq3
          have HX8 := Lib.hid ((HX7.out.below (show Below w7.heap.size w7 _ by go_grown)).below hb8)
          have HQ1 := Lib.hid hq1
          have HQ2 := Lib.hid hq2
          have HQ3 := Lib.hid hq3
          have HBB8 := Lib.hid ((HBB7.out.trans (Below.mono (show Below w7.heap.size w7 _ by go_grown) HBB7.out.size)).trans (hb8.mono (by have := HBB7.out.size; first | omega | (simp; omega))))
          have HB8b := Lib.hid hb8
          clear hb8 hq1 hq2 hq3
          dsimp only
          refine hK.out _ _ ?_ (fun hHeld => ?_)
          · (try dsimp only)
            first
              | (refine ⟨⟨?_, ?_, ?_, ?_⟩, ⟨?_, ?_, ?_, ?_⟩, ?_, ?_, ?_, ?_⟩ <;> with_reducible assumption)
              | (refine ⟨⟨cell_keep ?_ a0, cell_keep ?_ a1, cell_keep ?_ a2, cell_keep ?_ a3⟩, ⟨cell_keep ?_ b0, cell_keep ?_ b1, cell_keep ?_ b2, cell_keep ?_ b3⟩, cell_keep ?_ c0, cell_keep ?_ c1, cell_keep ?_ c2, cell_keep ?_ c3⟩ <;> (go_grown; done))
          clear hK K
          try (unfold Act.put; dsimp only)
          refine wpAnyN_ready (rs := [12]) (by kernel_rfl) (by simp) ?_
          refine AllReadyN.cons rfl (fun K hK => ?_) ?_
          · go_simp
            refine hK.out _ _ ?_ (fun hHeld => ?_)
            · (try dsimp only)
              first
                | (refine ⟨⟨?_, ?_, ?_, ?_⟩, ⟨?_, ?_, ?_, ?_⟩, ?_, ?_, ?_, ?_⟩ <;> with_reducible assumption)
                | (refine ⟨⟨cell_keep ?_ a0, cell_keep ?_ a1, cell_keep ?_ a2, cell_keep ?_ a3⟩, ⟨cell_keep ?_ b0, cell_keep ?_ b1, cell_keep ?_ b2, cell_keep ?_ b3⟩, cell_keep ?_ c0, cell_keep ?_ c1, cell_keep ?_ c2, cell_keep ?_ c3⟩ <;> (go_grown; done))
            clear hK K
            try (unfold Act.put; dsimp only)
            refine wpAnyN_ready (rs := [13]) (by kernel_rfl) (by simp) ?_
            refine AllReadyN.cons rfl (fun K hK => ?_) ?_
            · go_simp
              go_at_call 13
              refine (same_true A8 _ 2 c8 2 [⟨3, 1, 4, true⟩, ⟨1, 1, 3, false⟩] _ (HR8.out.below (by go_grown)) (rdw_blk2 (T := 33) (by first | ((repeat (first | rw [heap_drew] | rw [heap_push])); simp; done) | (rw [HB8b.out.block _ (by first | omega | (simp; done) | (simp; omega))]; (repeat (first | rw [heap_drew] | rw [heap_push])); simp; done))) rfl (by omega)).mono ?_
              rintro e w9 ⟨rfl, hb9⟩
              have hq1 := heap_keep2 (w5 := w8) (by go_grown) hb9 HQ1.out
              have hq2 := heap_keep2 (w5 := w8) (by go_grown) hb9 HQ2.out
              have hq3 := heap_keep2 (w5 := w8) (by go_grown) hb9 HQ3.out
              obtain ⟨a0, a1, a2, a3⟩ := blk_cells hq1
              obtain ⟨b0, b1, b2, b3⟩ := blk_cells hq2
              obtain ⟨c0, c1, c2, c3⟩ := blk_cells hq3
              have HX9 := Lib.hid ((HX8.out.below (show Below w8.heap.size w8 _ by go_grown)).below hb9)
              have HQ1 := Lib.hid hq1
              have HQ2 := Lib.hid hq2
              have HQ3 := Lib.hid hq3
              have HBB9 := Lib.hid ((HBB8.out.trans (Below.mono (show Below w8.heap.size w8 _ by go_grown) HBB8.out.size)).trans (hb9.mono (by have := HBB8.out.size; first | omega | (simp; omega))))
              have HB9b := Lib.hid hb9
              clear hb9 hq1 hq2 hq3
              dsimp only
              refine hK.out _ _ ?_ (fun hHeld => ?_)
              · (try dsimp only)
                first
                  | (refine ⟨⟨?_, ?_, ?_, ?_⟩, ⟨?_, ?_, ?_, ?_⟩, ?_, ?_, ?_, ?_⟩ <;> with_reducible assumption)
                  | (refine ⟨⟨cell_keep ?_ a0, cell_keep ?_ a1, cell_keep ?_ a2, cell_keep ?_ a3⟩, ⟨cell_keep ?_ b0, cell_keep ?_ b1, cell_keep ?_ b2, cell_keep ?_ b3⟩, cell_keep ?_ c0, cell_keep ?_ c1, cell_keep ?_ c2, cell_keep ?_ c3⟩ <;> (go_grown; done))
              clear hK K
              try (unfold Act.put; dsimp only)
              refine wpAnyN_take [15] (i := 14) (v := ?_) rfl (by kernel_rfl) (by kernel_rfl) (by kernel_rfl) (by kernel_rfl) (by kernel_rfl) (fun _ _ _ h => h) (Or.inl ⟨by rfl, ?_⟩) (by assumption) ?_
              rotate_left
              focus
                intro w hSw
                (try dsimp only at hSw)
                go_simp
                try with_reducible rfl
              try (unfold Act.put; dsimp only)
              refine wpAnyN_ready (rs := [15]) (by kernel_rfl) (by simp) ?_
              refine AllReadyN.last rfl rfl (fun K hK => ?_) ?_
              · go_simp
                refine hK.out _ _ ?_
                clear hK K
                try (unfold Act.put; dsimp only)
                refine wpAnyN_done (by kernel_rfl) ?_ _
                go_wp2
                go_ret
                exact ⟨rfl, HBB9.out.trans (Below.mono (show Below w9.heap.size w9 _ by go_grown) HBB9.out.size)⟩
              exact AllReadyN.nil
            exact AllReadyN.nil
          exact AllReadyN.nil
        refine AllReadyN.cons rfl (fun K hK => ?_) ?_
        · go_simp
          refine hK.out _ _ ?_ (fun hHeld => ?_)
          · (try dsimp only)
            first
              | (refine ⟨⟨?_, ?_, ?_, ?_⟩, ⟨?_, ?_, ?_, ?_⟩, ?_, ?_, ?_, ?_⟩ <;> with_reducible assumption)
              | (refine ⟨⟨cell_keep ?_ a0, cell_keep ?_ a1, cell_keep ?_ a2, cell_keep ?_ a3⟩, ⟨cell_keep ?_ b0, cell_keep ?_ b1, cell_keep ?_ b2, cell_keep ?_ b3⟩, cell_keep ?_ c0, cell_keep ?_ c1, cell_keep ?_ c2, cell_keep ?_ c3⟩ <;> (go_grown; done))
          clear hK K
          try (unfold Act.put; dsimp only)
          refine wpAnyN_ready (rs := [9]) (by kernel_rfl) (by simp) ?_
          refine AllReadyN.cons rfl (fun K hK => ?_) ?_
          · go_simp
            go_at_call 17
            refine (ahead_any w.heap.size w.heap.size 3 _ (fun k => w1.heap.size ≤ k ∧ k < w1.heap.size + 3) 2 _ (HX7.out.below (by go_grown)) (by decide)).mono ?_
            rintro e w8 ⟨⟨A8, n8, c8, rfl, hn8, _, r8⟩, hb8⟩
            have hn82 : n8 = 2 := hn8.trans (by decide)
            subst hn82
            have HR8 := Lib.hid (show RdW w8 A8 [⟨3, 1, 4, true⟩, ⟨1, 1, 3, false⟩] from r8)
            clear r8 hn8
            have hq1 := heap_keep2 (w5 := w7) (by go_grown) hb8 HQ1.out
            have hq2 := heap_keep2 (w5 := w7) (by go_grown) hb8 HQ2.out
            have hq3 := heap_keep2 (w5 := w7) (by go_grown) hb8 HQ3.out
            obtain ⟨a0, a1, a2, a3⟩ := blk_cells hq1
            obtain ⟨b0, b1, b2, b3⟩ := blk_cells hq2
            obtain ⟨c0, c1, c2, c3⟩ := blk_cells hq3
            have HX8 := Lib.hid ((HX7.out.below (show Below w7.heap.size w7 _ by go_grown)).below hb8)
            have HQ1 := Lib.hid hq1
            have HQ2 := Lib.hid hq2
            have HQ3 := Lib.hid hq3
            have HBB8 := Lib.hid ((HBB7.out.trans (Below.mono (show Below w7.heap.size w7 _ by go_grown) HBB7.out.size)).trans (hb8.mono (by have := HBB7.out.size; first | omega | (simp; omega))))
            have HB8b := Lib.hid hb8
            clear hb8 hq1 hq2 hq3
            dsimp only
            refine hK.out _ _ ?_ (fun hHeld => ?_)
            · (try dsimp only)
              first
                | (refine ⟨⟨?_, ?_, ?_, ?_⟩, ⟨?_, ?_, ?_, ?_⟩, ?_, ?_, ?_, ?_⟩ <;> with_reducible assumption)
                | (refine ⟨⟨cell_keep ?_ a0, cell_keep ?_ a1, cell_keep ?_ a2, cell_keep ?_ a3⟩, ⟨cell_keep ?_ b0, cell_keep ?_ b1, cell_keep ?_ b2, cell_keep ?_ b3⟩, cell_keep ?_ c0, cell_keep ?_ c1, cell_keep ?_ c2, cell_keep ?_ c3⟩ <;> (go_grown; done))
            clear hK K
            try (unfold Act.put; dsimp only)
            refine wpAnyN_ready (rs := [13]) (by kernel_rfl) (by simp) ?_
            refine AllReadyN.cons rfl (fun K hK => ?_) ?_
            · go_simp
              go_at_call 13
              refine (same_true A8 _ 2 c8 2 [⟨3, 1, 4, true⟩, ⟨1, 1, 3, false⟩] _ (HR8.out.below (by go_grown)) (rdw_blk2 (T := 33) (by first | ((repeat (first | rw [heap_drew] | rw [heap_push])); simp; done) | (rw [HB8b.out.block _ (by first | omega | (simp; done) | (simp; omega))]; (repeat (first | rw [heap_drew] | rw [heap_push])); simp; done))) rfl (by omega)).mono ?_
              rintro e w9 ⟨rfl, hb9⟩
              have hq1 := heap_keep2 (w5 := w8) (by go_grown) hb9 HQ1.out
              have hq2 := heap_keep2 (w5 := w8) (by go_grown) hb9 HQ2.out
              have hq3 := heap_keep2 (w5 := w8) (by go_grown) hb9 HQ3.out
              obtain ⟨a0, a1, a2, a3⟩ := blk_cells hq1
              obtain ⟨b0, b1, b2, b3⟩ := blk_cells hq2
              obtain ⟨c0, c1, c2, c3⟩ := blk_cells hq3
              have HX9 := Lib.hid ((HX8.out.below (show Below w8.heap.size w8 _ by go_grown)).below hb9)
              have HQ1 := Lib.hid hq1
              have HQ2 := Lib.hid hq2
              have HQ3 := Lib.hid hq3
              have HBB9 := Lib.hid ((HBB8.out.trans (Below.mono (show Below w8.heap.size w8 _ by go_grown) HBB8.out.size)).trans (hb9.mono (by have := HBB8.out.size; first | omega | (simp; omega))))
              have HB9b := Lib.hid hb9
              clear hb9 hq1 hq2 hq3
              dsimp only
              refine hK.out _ _ ?_ (fun hHeld => ?_)
              · (try dsimp only)
                first
                  | (refine ⟨⟨?_, ?_, ?_, ?_⟩, ⟨?_, ?_, ?_, ?_⟩, ?_, ?_, ?_, ?_⟩ <;> with_reducible assumption)
                  | (refine ⟨⟨cell_keep ?_ a0, cell_keep ?_ a1, cell_keep ?_ a2, cell_keep ?_ a3⟩, ⟨cell_keep ?_ b0, cell_keep ?_ b1, cell_keep ?_ b2, cell_keep ?_ b3⟩, cell_keep ?_ c0, cell_keep ?_ c1, cell_keep ?_ c2, cell_keep ?_ c3⟩ <;> (go_grown; done))
              clear hK K
              try (unfold Act.put; dsimp only)
              refine wpAnyN_take [15] (i := 14) (v := ?_) rfl (by kernel_rfl) (by kernel_rfl) (by kernel_rfl) (by kernel_rfl) (by kernel_rfl) (fun _ _ _ h => h) (Or.inl ⟨by rfl, ?_⟩) (by assumption) ?_
              rotate_left
              focus
                intro w hSw
                (try dsimp only at hSw)
                go_simp
                try with_reducible rfl
              try (unfold Act.put; dsimp only)
              refine wpAnyN_ready (rs := [15]) (by kernel_rfl) (by simp) ?_
              refine AllReadyN.last rfl rfl (fun K hK => ?_) ?_
              · go_simp
                refine hK.out _ _ ?_
                clear hK K
                try (unfold Act.put; dsimp only)
                refine wpAnyN_done (by kernel_rfl) ?_ _
                go_wp2
                go_ret
                exact ⟨rfl, HBB9.out.trans (Below.mono (show Below w9.heap.size w9 _ by go_grown) HBB9.out.size)⟩
              exact AllReadyN.nil
            exact AllReadyN.nil
          exact AllReadyN.nil
        exact AllReadyN.nil
      exact AllReadyN.nil
    exact AllReadyN.nil
  refine AllReadyN.cons rfl (fun K hK => ?_) ?_
  · go_simp
    refine hK.out _ _ ?_ (fun hHeld => ?_)
    · (try dsimp only)
      first
        | (refine ⟨⟨?_, ?_, ?_, ?_⟩, ⟨?_, ?_, ?_, ?_⟩, ?_, ?_, ?_, ?_⟩ <;> with_reducible assumption)
        | (refine ⟨⟨cell_keep ?_ a0, cell_keep ?_ a1, cell_keep ?_ a2, cell_keep ?_ a3⟩, ⟨cell_keep ?_ b0, cell_keep ?_ b1, cell_keep ?_ b2, cell_keep ?_ b3⟩, cell_keep ?_ c0, cell_keep ?_ c1, cell_keep ?_ c2, cell_keep ?_ c3⟩ <;> (go_grown; done))
    clear hK K
    try (unfold Act.put; dsimp only)
    refine wpAnyN_ready (rs := [1]) (by kernel_rfl) (by simp) ?_
    refine AllReadyN.cons rfl (fun K hK => ?_) ?_
    · go_simp
      go_at_call 14
      refine (all_x w.heap.size w.heap.size 3 _ (fun k => w1.heap.size ≤ k ∧ k < w1.heap.size + 3) _ (HX5.out.below (by go_grown)) (by decide)).mono ?_
      rintro e w6 ⟨⟨v6, rfl, hown6⟩, hb6⟩
      have hown6' : w6.ownsRow _ 33 4 v6 3 (flatW [⟨3, 1, 4, true⟩, ⟨1, 1, 3, false⟩, ⟨2, 1, 3, false⟩]) := hown6
      obtain ⟨_, A6, c6, rfl, _, r6⟩ := rdw_of_own hown6'
      have HR6 := Lib.hid r6
      clear hown6'
      have HB6 := Lib.hid hb6
      have hq1 := heap_keep2 (w5 := w5) (by go_grown) hb6 HV1.out
      have hq2 := heap_keep2 (w5 := w5) (by go_grown) hb6 HV2.out
      have hq3 := heap_keep2 (w5 := w5) (by go_grown) hb6 HV3.out
      obtain ⟨a0, a1, a2, a3⟩ := blk_cells hq1
      obtain ⟨b0, b1, b2, b3⟩ := blk_cells hq2
      obtain ⟨c0, c1, c2, c3⟩ := blk_cells hq3
      have HX6 := Lib.hid ((HX5.out.below (show Below w5.heap.size w5 _ by go_grown)).below hb6)
      have HQ1 := Lib.hid hq1
      have HQ2 := Lib.hid hq2
      have HQ3 := Lib.hid hq3
      have HBB6 := Lib.hid ((HB5.out.trans (Below.mono (show Below w5.heap.size w5 _ by go_grown) (by omega))).trans (hb6.mono (by have := HB5.out.size; first | omega | (simp; omega))))
      clear hown6 r6 hb6 hq1 hq2 hq3
      dsimp only
      refine hK.out _ _ ?_ (fun hHeld => ?_)
      · (try dsimp only)
        first
          | (refine ⟨⟨?_, ?_, ?_, ?_⟩, ⟨?_, ?_, ?_, ?_⟩, ?_, ?_, ?_, ?_⟩ <;> with_reducible assumption)
          | (refine ⟨⟨cell_keep ?_ a0, cell_keep ?_ a1, cell_keep ?_ a2, cell_keep ?_ a3⟩, ⟨cell_keep ?_ b0, cell_keep ?_ b1, cell_keep ?_ b2, cell_keep ?_ b3⟩, cell_keep ?_ c0, cell_keep ?_ c1, cell_keep ?_ c2, cell_keep ?_ c3⟩ <;> (go_grown; done))
      clear hK K
      try (unfold Act.put; dsimp only)
      refine wpAnyN_ready (rs := [6]) (by kernel_rfl) (by simp) ?_
      refine AllReadyN.cons rfl (fun K hK => ?_) ?_
      · go_simp
        go_at_call 13
        refine (same_true A6 _ 3 c6 3 [⟨3, 1, 4, true⟩, ⟨1, 1, 3, false⟩, ⟨2, 1, 3, false⟩] _ (HR6.out.below (by go_grown)) (rdw_blk3 (T := 33) (by first | ((repeat (first | rw [heap_drew] | rw [heap_push])); simp; done) | (rw [HB6.out.block _ (by first | omega | (simp; done) | (simp; omega))]; (repeat (first | rw [heap_drew] | rw [heap_push])); simp; done))) rfl (by omega)).mono ?_
        rintro e w7 ⟨rfl, hb7⟩
        have hq1 := heap_keep2 (w5 := w6) (by go_grown) hb7 HQ1.out
        have hq2 := heap_keep2 (w5 := w6) (by go_grown) hb7 HQ2.out
        have hq3 := heap_keep2 (w5 := w6) (by go_grown) hb7 HQ3.out
        obtain ⟨a0, a1, a2, a3⟩ := blk_cells hq1
        obtain ⟨b0, b1, b2, b3⟩ := blk_cells hq2
        obtain ⟨c0, c1, c2, c3⟩ := blk_cells hq3
        have HX7 := Lib.hid ((HX6.out.below (show Below w6.heap.size w6 _ by go_grown)).below hb7)
        have HQ1 := Lib.hid hq1
        have HQ2 := Lib.hid hq2
        have HQ3 := Lib.hid hq3
        have HBB7 := Lib.hid ((HBB6.out.trans (Below.mono (show Below w6.heap.size w6 _ by go_grown) HBB6.out.size)).trans (hb7.mono (by have := HBB6.out.size; first | omega | (simp; omega))))
        have HB7b := Lib.hid hb7
        clear hb7 hq1 hq2 hq3
        dsimp only
        refine hK.out _ _ ?_ (fun hHeld => ?_)
        · (try dsimp only)
          first
            | (refine ⟨⟨?_, ?_, ?_, ?_⟩, ⟨?_, ?_, ?_, ?_⟩, ?_, ?_, ?_, ?_⟩ <;> with_reducible assumption)
            | (refine ⟨⟨cell_keep ?_ a0, cell_keep ?_ a1, cell_keep ?_ a2, cell_keep ?_ a3⟩, ⟨cell_keep ?_ b0, cell_keep ?_ b1, cell_keep ?_ b2, cell_keep ?_ b3⟩, cell_keep ?_ c0, cell_keep ?_ c1, cell_keep ?_ c2, cell_keep ?_ c3⟩ <;> (go_grown; done))
        clear hK K
        try (unfold Act.put; dsimp only)
        refine wpAnyN_take [8, 9, 10, 11, 12, 13, 14, 15] (i := 7) (v := ?_) rfl (by kernel_rfl) (by kernel_rfl) (by kernel_rfl) (by kernel_rfl) (by kernel_rfl) (fun _ _ _ h => h) (Or.inl ⟨by rfl, ?_⟩) (by assumption) ?_
        rotate_left
        focus
          intro w hSw
          (try dsimp only at hSw)
          go_simp
          try with_reducible rfl
        try (unfold Act.put; dsimp only)
        refine wpAnyN_take [9, 13, 14, 15] (i := 8) (v := ?_) rfl (by kernel_rfl) (by kernel_rfl) (by kernel_rfl) (by kernel_rfl) (by kernel_rfl) (fun _ _ _ h => h) (Or.inl ⟨by rfl, ?_⟩) (by assumption) ?_
        rotate_left
        focus
          intro w hSw
          (try dsimp only at hSw)
          go_simp
          try with_reducible rfl
        try (unfold Act.put; dsimp only)
        refine wpAnyN_take [12, 13, 14, 15] (i := 10) (v := ?_) rfl (by kernel_rfl) (by kernel_rfl) (by kernel_rfl) (by kernel_rfl) (by kernel_rfl) (fun _ _ _ h => h) (Or.inl ⟨by rfl, ?_⟩) (by assumption) ?_
        rotate_left
        focus
          intro w hSw
          (try dsimp only at hSw)
          go_simp
          try with_reducible rfl
        try (unfold Act.put; dsimp only)
        refine wpAnyN_take [12, 13, 14, 15] (i := 11) (v := ?_) rfl (by kernel_rfl) (by kernel_rfl) (by kernel_rfl) (by kernel_rfl) (by kernel_rfl) (fun _ _ _ h => h) (Or.inl ⟨by rfl, ?_⟩) (by assumption) ?_
        rotate_left
        focus
          intro w hSw
          (try dsimp only at hSw)
          go_simp
          try with_reducible rfl
        try (unfold Act.put; dsimp only)
        refine wpAnyN_ready (rs := [9, 12]) (by kernel_rfl) (by simp) ?_
        refine AllReadyN.cons rfl (fun K hK => ?_) ?_
        · go_simp
          go_at_call 17
          refine (ahead_any w.heap.size w.heap.size 3 _ (fun k => w1.heap.size ≤ k ∧ k < w1.heap.size + 3) 2 _ (HX7.out.below (by go_grown)) (by decide)).mono ?_
          rintro e w8 ⟨⟨A8, n8, c8, rfl, hn8, _, r8⟩, hb8⟩
          have hn82 : n8 = 2 := hn8.trans (by decide)
          subst hn82
          have HR8 := Lib.hid (show RdW w8 A8 [⟨3, 1, 4, true⟩, ⟨1, 1, 3, false⟩] from r8)
          clear r8 hn8
          have hq1 := heap_keep2 (w5 := w7) (by go_grown) hb8 HQ1.out
          have hq2 := heap_keep2 (w5 := w7) (by go_grown) hb8 HQ2.out
          have hq3 := heap_keep2 (w5 := w7) (by go_grown) hb8 HQ3.out
          obtain ⟨a0, a1, a2, a3⟩ := blk_cells hq1
          obtain ⟨b0, b1, b2, b3⟩ := blk_cells hq2
          obtain ⟨c0, c1, c2, c3⟩ := blk_cells hq3
          have HX8 := Lib.hid ((HX7.out.below (show Below w7.heap.size w7 _ by go_grown)).below hb8)
          have HQ1 := Lib.hid hq1
          have HQ2 := Lib.hid hq2
          have HQ3 := Lib.hid hq3
          have HBB8 := Lib.hid ((HBB7.out.trans (Below.mono (show Below w7.heap.size w7 _ by go_grown) HBB7.out.size)).trans (hb8.mono (by have := HBB7.out.size; first | omega | (simp; omega))))
          have HB8b := Lib.hid hb8
          clear hb8 hq1 hq2 hq3
          dsimp only
          refine hK.out _ _ ?_ (fun hHeld => ?_)
          · (try dsimp only)
            first
              | (refine ⟨⟨?_, ?_, ?_, ?_⟩, ⟨?_, ?_, ?_, ?_⟩, ?_, ?_, ?_, ?_⟩ <;> with_reducible assumption)
              | (refine ⟨⟨cell_keep ?_ a0, cell_keep ?_ a1, cell_keep ?_ a2, cell_keep ?_ a3⟩, ⟨cell_keep ?_ b0, cell_keep ?_ b1, cell_keep ?_ b2, cell_keep ?_ b3⟩, cell_keep ?_ c0, cell_keep ?_ c1, cell_keep ?_ c2, cell_keep ?_ c3⟩ <;> (go_grown; done))
          clear hK K
          try (unfold Act.put; dsimp only)
          refine wpAnyN_ready (rs := [12]) (by kernel_rfl) (by simp) ?_
          refine AllReadyN.cons rfl (fun K hK => ?_) ?_
          · go_simp
            refine hK.out _ _ ?_ (fun hHeld => ?_)
            · (try dsimp only)
              first
                | (refine ⟨⟨?_, ?_, ?_, ?_⟩, ⟨?_, ?_, ?_, ?_⟩, ?_, ?_, ?_, ?_⟩ <;> with_reducible assumption)
                | (refine ⟨⟨cell_keep ?_ a0, cell_keep ?_ a1, cell_keep ?_ a2, cell_keep ?_ a3⟩, ⟨cell_keep ?_ b0, cell_keep ?_ b1, cell_keep ?_ b2, cell_keep ?_ b3⟩, cell_keep ?_ c0, cell_keep ?_ c1, cell_keep ?_ c2, cell_keep ?_ c3⟩ <;> (go_grown; done))
            clear hK K
            try (unfold Act.put; dsimp only)
            refine wpAnyN_ready (rs := [13]) (by kernel_rfl) (by simp) ?_
            refine AllReadyN.cons rfl (fun K hK => ?_) ?_
            · go_simp
              go_at_call 13
              refine (same_true A8 _ 2 c8 2 [⟨3, 1, 4, true⟩, ⟨1, 1, 3, false⟩] _ (HR8.out.below (by go_grown)) (rdw_blk2 (T := 33) (by first | ((repeat (first | rw [heap_drew] | rw [heap_push])); simp; done) | (rw [HB8b.out.block _ (by first | omega | (simp; done) | (simp; omega))]; (repeat (first | rw [heap_drew] | rw [heap_push])); simp; done))) rfl (by omega)).mono ?_
              rintro e w9 ⟨rfl, hb9⟩
              have hq1 := heap_keep2 (w5 := w8) (by go_grown) hb9 HQ1.out
              have hq2 := heap_keep2 (w5 := w8) (by go_grown) hb9 HQ2.out
              have hq3 := heap_keep2 (w5 := w8) (by go_grown) hb9 HQ3.out
              obtain ⟨a0, a1, a2, a3⟩ := blk_cells hq1
              obtain ⟨b0, b1, b2, b3⟩ := blk_cells hq2
              obtain ⟨c0, c1, c2, c3⟩ := blk_cells hq3
              have HX9 := Lib.hid ((HX8.out.below (show Below w8.heap.size w8 _ by go_grown)).below hb9)
              have HQ1 := Lib.hid hq1
              have HQ2 := Lib.hid hq2
              have HQ3 := Lib.hid hq3
              have HBB9 := Lib.hid ((HBB8.out.trans (Below.mono (show Below w8.heap.size w8 _ by go_grown) HBB8.out.size)).trans (hb9.mono (by have := HBB8.out.size; first | omega | (simp; omega))))
              have HB9b := Lib.hid hb9
              clear hb9 hq1 hq2 hq3
              dsimp only
              refine hK.out _ _ ?_ (fun hHeld => ?_)
              · (try dsimp only)
                first
                  | (refine ⟨⟨?_, ?_, ?_, ?_⟩, ⟨?_, ?_, ?_, ?_⟩, ?_, ?_, ?_, ?_⟩ <;> with_reducible assumption)
                  | (refine ⟨⟨cell_keep ?_ a0, cell_keep ?_ a1, cell_keep ?_ a2, cell_keep ?_ a3⟩, ⟨cell_keep ?_ b0, cell_keep ?_ b1, cell_keep ?_ b2, cell_keep ?_ b3⟩, cell_keep ?_ c0, cell_keep ?_ c1, cell_keep ?_ c2, cell_keep ?_ c3⟩ <;> (go_grown; done))
              clear hK K
              try (unfold Act.put; dsimp only)
              refine wpAnyN_take [15] (i := 14) (v := ?_) rfl (by kernel_rfl) (by kernel_rfl) (by kernel_rfl) (by kernel_rfl) (by kernel_rfl) (fun _ _ _ h => h) (Or.inl ⟨by rfl, ?_⟩) (by assumption) ?_
              rotate_left
              focus
                intro w hSw
                (try dsimp only at hSw)
                go_simp
                try with_reducible rfl
              try (unfold Act.put; dsimp only)
              refine wpAnyN_ready (rs := [15]) (by kernel_rfl) (by simp) ?_
              refine AllReadyN.last rfl rfl (fun K hK => ?_) ?_
              · go_simp
                refine hK.out _ _ ?_
                clear hK K
                try (unfold Act.put; dsimp only)
                refine wpAnyN_done (by kernel_rfl) ?_ _
                go_wp2
                go_ret
                exact ⟨rfl, HBB9.out.trans (Below.mono (show Below w9.heap.size w9 _ by go_grown) HBB9.out.size)⟩
              exact AllReadyN.nil
            exact AllReadyN.nil
          exact AllReadyN.nil
        refine AllReadyN.cons rfl (fun K hK => ?_) ?_
        · go_simp
          refine hK.out _ _ ?_ (fun hHeld => ?_)
          · (try dsimp only)
            first
              | (refine ⟨⟨?_, ?_, ?_, ?_⟩, ⟨?_, ?_, ?_, ?_⟩, ?_, ?_, ?_, ?_⟩ <;> with_reducible assumption)
              | (refine ⟨⟨cell_keep ?_ a0, cell_keep ?_ a1, cell_keep ?_ a2, cell_keep ?_ a3⟩, ⟨cell_keep ?_ b0, cell_keep ?_ b1, cell_keep ?_ b2, cell_keep ?_ b3⟩, cell_keep ?_ c0, cell_keep ?_ c1, cell_keep ?_ c2, cell_keep ?_ c3⟩ <;> (go_grown; done))
          clear hK K
          try (unfold Act.put; dsimp only)
          refine wpAnyN_ready (rs := [9]) (by kernel_rfl) (by simp) ?_
          refine AllReadyN.cons rfl (fun K hK => ?_) ?_
          · go_simp
            go_at_call 17
            refine (ahead_any w.heap.size w.heap.size 3 _ (fun k => w1.heap.size ≤ k ∧ k < w1.heap.size + 3) 2 _ (HX7.out.below (by go_grown)) (by decide)).mono ?_
            rintro e w8 ⟨⟨A8, n8, c8, rfl, hn8, _, r8⟩, hb8⟩
            have hn82 : n8 = 2 := hn8.trans (by decide)
            subst hn82
            have HR8 := Lib.hid (show RdW w8 A8 [⟨3, 1, 4, true⟩, ⟨1, 1, 3, false⟩] from r8)
            clear r8 hn8
            have hq1 := heap_keep2 (w5 := w7) (by go_grown) hb8 HQ1.out
            have hq2 := heap_keep2 (w5 := w7) (by go_grown) hb8 HQ2.out
            have hq3 := heap_keep2 (w5 := w7) (by go_grown) hb8 HQ3.out
            obtain ⟨a0, a1, a2, a3⟩ := blk_cells hq1
            obtain ⟨b0, b1, b2, b3⟩ := blk_cells hq2
            obtain ⟨c0, c1, c2, c3⟩ := blk_cells hq3
            have HX8 := Lib.hid ((HX7.out.below (show Below w7.heap.size w7 _ by go_grown)).below hb8)
            have HQ1 := Lib.hid hq1
            have HQ2 := Lib.hid hq2
            have HQ3 := Lib.hid hq3
            have HBB8 := Lib.hid ((HBB7.out.trans (Below.mono (show Below w7.heap.size w7 _ by go_grown) HBB7.out.size)).trans (hb8.mono (by have := HBB7.out.size; first | omega | (simp; omega))))
            have HB8b := Lib.hid hb8
            clear hb8 hq1 hq2 hq3
            dsimp only
            refine hK.out _ _ ?_ (fun hHeld => ?_)
            · (try dsimp only)
              first
                | (refine ⟨⟨?_, ?_, ?_, ?_⟩, ⟨?_, ?_, ?_, ?_⟩, ?_, ?_, ?_, ?_⟩ <;> with_reducible assumption)
                | (refine ⟨⟨cell_keep ?_ a0, cell_keep ?_ a1, cell_keep ?_ a2, cell_keep ?_ a3⟩, ⟨cell_keep ?_ b0, cell_keep ?_ b1, cell_keep ?_ b2, cell_keep ?_ b3⟩, cell_keep ?_ c0, cell_keep ?_ c1, cell_keep ?_ c2, cell_keep ?_ c3⟩ <;> (go_grown; done))
            clear hK K
            try (unfold Act.put; dsimp only)
            refine wpAnyN_ready (rs := [13]) (by kernel_rfl) (by simp) ?_
            refine AllReadyN.cons rfl (fun K hK => ?_) ?_
            · go_simp
              go_at_call 13
              refine (same_true A8 _ 2 c8 2 [⟨3, 1, 4, true⟩, ⟨1, 1, 3, false⟩] _ (HR8.out.below (by go_grown)) (rdw_blk2 (T := 33) (by first | ((repeat (first | rw [heap_drew] | rw [heap_push])); simp; done) | (rw [HB8b.out.block _ (by first | omega | (simp; done) | (simp; omega))]; (repeat (first | rw [heap_drew] | rw [heap_push])); simp; done))) rfl (by omega)).mono ?_
              rintro e w9 ⟨rfl, hb9⟩
              have hq1 := heap_keep2 (w5 := w8) (by go_grown) hb9 HQ1.out
              have hq2 := heap_keep2 (w5 := w8) (by go_grown) hb9 HQ2.out
              have hq3 := heap_keep2 (w5 := w8) (by go_grown) hb9 HQ3.out
              obtain ⟨a0, a1, a2, a3⟩ := blk_cells hq1
              obtain ⟨b0, b1, b2, b3⟩ := blk_cells hq2
              obtain ⟨c0, c1, c2, c3⟩ := blk_cells hq3
              have HX9 := Lib.hid ((HX8.out.below (show Below w8.heap.size w8 _ by go_grown)).below hb9)
              have HQ1 := Lib.hid hq1
              have HQ2 := Lib.hid hq2
              have HQ3 := Lib.hid hq3
              have HBB9 := Lib.hid ((HBB8.out.trans (Below.mono (show Below w8.heap.size w8 _ by go_grown) HBB8.out.size)).trans (hb9.mono (by have := HBB8.out.size; first | omega | (simp; omega))))
              have HB9b := Lib.hid hb9
              clear hb9 hq1 hq2 hq3
              dsimp only
              refine hK.out _ _ ?_ (fun hHeld => ?_)
              · (try dsimp only)
                first
                  | (refine ⟨⟨?_, ?_, ?_, ?_⟩, ⟨?_, ?_, ?_, ?_⟩, ?_, ?_, ?_, ?_⟩ <;> with_reducible assumption)
                  | (refine ⟨⟨cell_keep ?_ a0, cell_keep ?_ a1, cell_keep ?_ a2, cell_keep ?_ a3⟩, ⟨cell_keep ?_ b0, cell_keep ?_ b1, cell_keep ?_ b2, cell_keep ?_ b3⟩, cell_keep ?_ c0, cell_keep ?_ c1, cell_keep ?_ c2, cell_keep ?_ c3⟩ <;> (go_grown; done))
              clear hK K
              try (unfold Act.put; dsimp only)
              refine wpAnyN_take [15] (i := 14) (v := ?_) rfl (by kernel_rfl) (by kernel_rfl) (by kernel_rfl) (by kernel_rfl) (by kernel_rfl) (fun _ _ _ h => h) (Or.inl ⟨by rfl, ?_⟩) (by assumption) ?_
              rotate_left
              focus
                intro w hSw
                (try dsimp only at hSw)
                go_simp
                try with_reducible rfl
              try (unfold Act.put; dsimp only)
              refine wpAnyN_ready (rs := [15]) (by kernel_rfl) (by simp) ?_
              refine AllReadyN.last rfl rfl (fun K hK => ?_) ?_
              · go_simp
                refine hK.out _ _ ?_
                clear hK K
                try (unfold Act.put; dsimp only)
                refine wpAnyN_done (by kernel_rfl) ?_ _
                go_wp2
                go_ret
                exact ⟨rfl, HBB9.out.trans (Below.mono (show Below w9.heap.size w9 _ by go_grown) HBB9.out.size)⟩
              exact AllReadyN.nil
            exact AllReadyN.nil
          exact AllReadyN.nil
        exact AllReadyN.nil
      exact AllReadyN.nil
    exact AllReadyN.nil
  exact AllReadyN.nil
end Go.Proofs.Ytpbgdldaojpjkaa

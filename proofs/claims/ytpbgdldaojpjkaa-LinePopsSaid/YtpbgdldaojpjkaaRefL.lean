/-
  The document's Leave. No other conditions.
-/
import Derived.Test.YtpbgdldaojpjkaaRefQ
namespace Go.Proofs.Ytpbgdldaojpjkaa
open Go.ChangeShapes Go.WideShapes Go.ChangeAt Go.RowKit
set_option linter.unusedVariables false

/-- what the document's Leave answers -/
def DLeaveOf (w w' : World) (A : Option Addr) (n c : Nat) (es : List Wt) (t : Int) (r : Ending) : Prop :=
  Below w.heap.size w w' ∧ ((¬ findW es t < es.length ∧ r = .returned (.tuple #[.slice A n c, Wt.none.val, .int .i64 10])) ∨
    (findW es t < es.length ∧ ∃ v, r = .returned (.tuple #[v, (es.getD (findW es t) Wt.none).val, .int .i64 0]) ∧ w'.ownsRow w.heap.size 33 4 v (dLeave es t).length (flatW (dLeave es t))))

set_option maxHeartbeats 2000000 in
theorem rleave_no (A : Option Addr) (n c : Nat) (es : List Wt) (t : Int) (w : World) (h : RdW w A es) (hl : es.length = n) (hn : n ≤ 10000) (hf : ¬ findW es t < n) :
    Calls Try.prog 12 #[.slice A n c, .int .i64 t] w fun r w' => DLeaveOf w w' A n c es t r := by
  have hbA : Below w.heap.size w (w.alloc (.cells #[.int .i64 0, .int .i64 0, .int .i64 0, .bool false] 33)) := (Below.refl _ _).alloc (Nat.le_refl _) _
  have H := Lib.hid h
  have hfi : findI es t = -1 := by unfold findI; rw [if_neg (by rw [hl]; exact hf)]
  have HL := Lib.hid hl
  clear h hl
  go_enter Try.func12, Try.ntmps12
  go_wp2_with fail
  refine (rfind_any A n c es t _ (H.out.below hbA) HL.out hn).mono ?_
  rintro e w2 ⟨rfl, rfl⟩
  rw [hfi]
  go_wp2
  go_returns
  refine ⟨by go_grown, .inl ⟨by rw [HL.out]; exact hf, rfl⟩⟩

set_option maxRecDepth 100000 in
set_option maxHeartbeats 8000000 in
theorem rleave_yes (gx ox n c : Nat) (es : List Wt) (t : Int) (w : World) (h : RdW w (some ⟨gx, ox, none⟩) es) (hl : es.length = n) (hn : n ≤ 10000) (hnc : n ≤ c) (hc63 : c ≤ 9223372036854775807) (hf : findW es t < n) :
    Calls Try.prog 12 #[.slice (some ⟨gx, ox, none⟩) n c, .int .i64 t] w fun r w' => DLeaveOf w w' (some ⟨gx, ox, none⟩) n c es t r := by
  have hbA : Below w.heap.size w (w.alloc (.cells #[.int .i64 0, .int .i64 0, .int .i64 0, .bool false] 33)) := (Below.refl _ _).alloc (Nat.le_refl _) _
  have H := Lib.hid h
  have hfi : findI es t = (findW es t : Int) := by unfold findI; rw [if_pos (by rw [hl]; exact hf)]
  have hDn : dLeave es t = es.take (findW es t) ++ es.drop (findW es t + 1) := by unfold dLeave; rw [if_pos (by rw [hl]; exact hf), List.eraseIdx_eq_take_drop_succ]
  have HL := Lib.hid hl
  have HF := Lib.hid (show findW es t < es.length by rw [hl]; exact hf)
  clear h hl
  go_enter Try.func12, Try.ntmps12
  go_wp2_with fail
  refine (rfind_any _ n c es t _ (H.out.below hbA) HL.out hn).mono ?_
  rintro e w2 ⟨rfl, rfl⟩
  rw [hfi]
  have HDL : ∀ (c' : Nat) W r, Below w.heap.size w W → (∃ v, r = .returned (.tuple #[v, (es.getD (findW es t) Wt.none).val, .int .i64 0]) ∧ W.ownsRow w.heap.size 33 4 v (dLeave es t).length (flatW (dLeave es t))) → DLeaveOf w W (some ⟨gx, ox, none⟩) n c' es t r := fun _ W r hb hv => ⟨hb, .inr ⟨HF.out, hv⟩⟩
  have HDL' := Lib.hid HDL
  clear HDL
  obtain ⟨gg, off, hAx, hcx⟩ := H.out
  obtain ⟨hxe, hgx⟩ := hAx (by rw [HL.out]; omega)
  cases hxe
  obtain ⟨p0, p1, p2, p3⟩ := hcx (findW es t) (by rw [HL.out]; exact hf)
  obtain ⟨Ad, hAd, hAdn, hRd⟩ := slice_at H.out HL.out hnc (findW es t + 1) (by omega)
  rw [hDn] at HDL'
  generalize hE : es.getD (findW es t) Wt.none = E at *
  generalize findW es t = j at *
  obtain ⟨ex, es', em, eu⟩ := E
  simp only at p0 p1 p2 p3
  have HAD := Lib.hid hAd
  have HRD := Lib.hid hRd
  have hj0 : (0 : Int) ≤ j := by omega
  have hjc : (j : Int) ≤ c := by omega
  have hjn : (j : Int) < n := by omega
  have hwr : IntKind.i64.wrap ((j : Int) + 1) = (j : Int) + 1 := IntWalk.i64_in _ (by omega)
  have c4 : (0 : Int) ≤ (j : Int) + 1 := by omega
  have c5 : ((j : Int) + 1).toNat = j + 1 := by omega
  have c6 : (j : Int) + 1 ≤ n := by omega
  have r0 : (w.alloc (.cells #[.int .i64 0, .int .i64 0, .int .i64 0, .bool false] 33)).cell? ⟨w.heap.size, 0, none⟩ = some (.int .i64 0) := by simp
  have r1 : (w.alloc (.cells #[.int .i64 0, .int .i64 0, .int .i64 0, .bool false] 33)).cell? ⟨w.heap.size, 1, none⟩ = some (.int .i64 0) := by simp
  have r2 : (w.alloc (.cells #[.int .i64 0, .int .i64 0, .int .i64 0, .bool false] 33)).cell? ⟨w.heap.size, 2, none⟩ = some (.int .i64 0) := by simp
  have r3 : (w.alloc (.cells #[.int .i64 0, .int .i64 0, .int .i64 0, .bool false] 33)).cell? ⟨w.heap.size, 3, none⟩ = some (.bool false) := by simp
  have hzb : (w.alloc (.cells #[.int .i64 0, .int .i64 0, .int .i64 0, .bool false] 33)).heap[w.heap.size]? = some (.cells #[.int .i64 0, .int .i64 0, .int .i64 0, .bool false] 33 (0, 0)) := heap_alloc_new w _
  have m0 := (hbA.cell (p := ⟨gx, ox + j * 4, none⟩) hgx).trans p0
  have m1 := (hbA.cell (p := ⟨gx, ox + j * 4 + 1, none⟩) hgx).trans p1
  have m2 := (hbA.cell (p := ⟨gx, ox + j * 4 + 2, none⟩) hgx).trans p2
  have m3 := (hbA.cell (p := ⟨gx, ox + j * 4 + 3, none⟩) hgx).trans p3
  have hw1 : w.heap.size < (w.alloc (.cells #[.int .i64 0, .int .i64 0, .int .i64 0, .bool false] 33)).heap.size := by simp
  have hgw : gx ≠ w.heap.size := by omega
  generalize w.alloc (.cells #[.int .i64 0, .int .i64 0, .int .i64 0, .bool false] 33) = w1 at *
  have HZ := Lib.hid hzb
  clear hAd hRd hAx hcx p0 p1 p2 p3 hE hfi hf hzb
  go_wp2
  refine wp_region_N (S := (fun w' => w'.cell? ⟨gx, ox + j * 4, none⟩ = some (.int .i64 ex) ∧ w'.cell? ⟨gx, ox + j * 4 + 1, none⟩ = some (.int .i64 es') ∧ w'.cell? ⟨gx, ox + j * 4 + 2, none⟩ = some (.int .i64 em) ∧ w'.cell? ⟨gx, ox + j * 4 + 3, none⟩ = some (.bool eu))) (fun i => !(i == 15 || i == 16)) (by kernel_rfl) ?_ (fun hHeld => ?_)
  · (try dsimp only)
    first
      | (refine ⟨?_, ?_, ?_, ?_⟩ <;> assumption)
      | (refine ⟨cell_keep ?_ m0, cell_keep ?_ m1, cell_keep ?_ m2, cell_keep ?_ m3⟩ <;> (go_grown; done))
      | (refine ⟨cell_keep ?_ z0, cell_keep ?_ z1, cell_keep ?_ z2, cell_keep ?_ z3⟩ <;> (go_grown; done))
  refine wpAnyN_take [3, 4, 9, 14, 15, 16] (i := 1) (v := ?_) rfl (by kernel_rfl) (by kernel_rfl) (by kernel_rfl) (by kernel_rfl) (by kernel_rfl) (fun _ _ _ h => h) (Or.inl ⟨by rfl, ?_⟩) (by assumption) ?_
  rotate_left
  focus
    intro w hSw
    (try dsimp only at hSw)
    go_simp
    try with_reducible rfl
  try (unfold Act.put; dsimp only)
  refine wpAnyN_take [3, 4, 9, 14, 15, 16] (i := 2) (v := ?_) rfl (by kernel_rfl) (by kernel_rfl) (by kernel_rfl) (by kernel_rfl) (by kernel_rfl) (fun _ _ _ h => h) (Or.inl ⟨by rfl, ?_⟩) (by assumption) ?_
  rotate_left
  focus
    intro w hSw
    (try dsimp only at hSw)
    go_simp
    try with_reducible rfl
  try (unfold Act.put; dsimp only)
  refine wpAnyN_take [4, 9, 14, 15, 16] (i := 3) (v := ?_) rfl (by kernel_rfl) (by kernel_rfl) (by kernel_rfl) (by kernel_rfl) (by kernel_rfl) (fun _ _ _ h => h) (Or.inl ⟨by rfl, ?_⟩) (by assumption) ?_
  rotate_left
  focus
    intro w hSw
    (try dsimp only at hSw)
    go_simp
    try with_reducible rfl
  try (unfold Act.put; dsimp only)
  refine wpAnyN_take [8, 9, 14, 15, 16] (i := 5) (v := ?_) rfl (by kernel_rfl) (by kernel_rfl) (by kernel_rfl) (by kernel_rfl) (by kernel_rfl) (fun _ _ _ h => h) (Or.inl ⟨by rfl, ?_⟩) (by assumption) ?_
  rotate_left
  focus
    intro w hSw
    (try dsimp only at hSw)
    go_simp
    try with_reducible rfl
  try (unfold Act.put; dsimp only)
  refine wpAnyN_take [7, 8, 9, 14, 15, 16] (i := 6) (v := ?_) rfl (by kernel_rfl) (by kernel_rfl) (by kernel_rfl) (by kernel_rfl) (by kernel_rfl) (fun _ _ _ h => h) (Or.inl ⟨by rfl, ?_⟩) (by assumption) ?_
  rotate_left
  focus
    intro w hSw
    (try dsimp only at hSw)
    go_simp
    try with_reducible rfl
  try (unfold Act.put; dsimp only)
  refine wpAnyN_take [8, 9, 14, 15, 16] (i := 7) (v := ?_) rfl (by kernel_rfl) (by kernel_rfl) (by kernel_rfl) (by kernel_rfl) (by kernel_rfl) (fun _ _ _ h => h) (Or.inl ⟨by rfl, ?_⟩) (by assumption) ?_
  rotate_left
  focus
    intro w hSw
    (try dsimp only at hSw)
    go_simp
    try with_reducible rfl
  try (unfold Act.put; dsimp only)
  refine wpAnyN_take [9, 14, 15, 16] (i := 8) (v := ?_) rfl (by kernel_rfl) (by kernel_rfl) (by kernel_rfl) (by kernel_rfl) (by kernel_rfl) (fun _ _ _ h => h) (Or.inl ⟨by rfl, ?_⟩) (by assumption) ?_
  rotate_left
  focus
    intro w hSw
    (try dsimp only at hSw)
    go_simp
    try with_reducible rfl
  try (unfold Act.put; dsimp only)
  refine wpAnyN_take [12, 13, 15, 16] (i := 10) (v := ?_) rfl (by kernel_rfl) (by kernel_rfl) (by kernel_rfl) (by kernel_rfl) (by kernel_rfl) (fun _ _ _ h => h) (Or.inl ⟨by rfl, ?_⟩) (by assumption) ?_
  rotate_left
  focus
    intro w hSw
    (try dsimp only at hSw)
    go_simp
    try with_reducible rfl
  try (unfold Act.put; dsimp only)
  refine wpAnyN_take [12, 13, 15, 16] (i := 11) (v := ?_) rfl (by kernel_rfl) (by kernel_rfl) (by kernel_rfl) (by kernel_rfl) (by kernel_rfl) (fun _ _ _ h => h) (Or.inl ⟨by rfl, ?_⟩) (by assumption) ?_
  rotate_left
  focus
    intro w hSw
    (try dsimp only at hSw)
    go_simp
    try with_reducible rfl
  try (unfold Act.put; dsimp only)
  refine wpAnyN_take [13, 15, 16] (i := 12) (v := ?_) rfl (by kernel_rfl) (by kernel_rfl) (by kernel_rfl) (by kernel_rfl) (by kernel_rfl) (fun _ _ _ h => h) (Or.inl ⟨by rfl, ?_⟩) (by assumption) ?_
  rotate_left
  focus
    intro w hSw
    (try dsimp only at hSw)
    go_simp
    try with_reducible rfl
  try (unfold Act.put; dsimp only)
  refine wpAnyN_take [15, 16] (i := 13) (v := ?_) rfl (by kernel_rfl) (by kernel_rfl) (by kernel_rfl) (by kernel_rfl) (by kernel_rfl) (fun _ _ _ h => h) (Or.inl ⟨by rfl, ?_⟩) (by assumption) ?_
  rotate_left
  focus
    intro w hSw
    (try dsimp only at hSw)
    go_simp
    try with_reducible rfl
  try (unfold Act.put; dsimp only)
  refine wpAnyN_ready (rs := [0]) (by kernel_rfl) (by simp) ?_
  refine AllReadyN.cons rfl (fun K hK => ?_) ?_
  · go_simp
    refine hK.out _ _ ?_ (fun hHeld => ?_)
    · (try dsimp only)
      first
        | (refine ⟨?_, ?_, ?_, ?_⟩ <;> assumption)
        | (refine ⟨cell_keep ?_ m0, cell_keep ?_ m1, cell_keep ?_ m2, cell_keep ?_ m3⟩ <;> (go_grown; done))
        | (refine ⟨cell_keep ?_ z0, cell_keep ?_ z1, cell_keep ?_ z2, cell_keep ?_ z3⟩ <;> (go_grown; done))
    clear hK K
    try (unfold Act.put; dsimp only)
    refine wpAnyN_ready (rs := [4]) (by kernel_rfl) (by simp) ?_
    refine AllReadyN.cons rfl (fun K hK => ?_) ?_
    · refine step_append_waits (by rfl) (by rfl) _ _ (by rfl) w1.heap.size _ 0 [] (by rfl) (own_blk (by first | omega | (simp; done) | (simp; omega)) (by (repeat (first | rw [heap_drew] | rw [heap_push])); simp)) (some ⟨gx, ox, none⟩) j c (es.take j) (by rw [List.length_take, HL.out]; omega) (by rfl) (rdw_take ((H.out.below hbA).below (by go_grown)) j) (by intro h; cases h) (by first | omega | (simp; done) | (simp; omega)) (by omega) ?_
      intro v7 w7 hown7 hg7
      have hb7 : Below w1.heap.size w1 w7 := Below.grown (show Below w1.heap.size w1 _ by go_grown) hg7 (by first | omega | (simp; done) | (simp; omega)) (fun q hq => by simp [Value.ownBlock] at hq; omega)
      have z0 := append_cell hg7 (by go_grown) m0 (by first | (simp [Value.ownBlock]; done) | (simp [Value.ownBlock]; omega))
      have z1 := append_cell hg7 (by go_grown) m1 (by first | (simp [Value.ownBlock]; done) | (simp [Value.ownBlock]; omega))
      have z2 := append_cell hg7 (by go_grown) m2 (by first | (simp [Value.ownBlock]; done) | (simp [Value.ownBlock]; omega))
      have z3 := append_cell hg7 (by go_grown) m3 (by first | (simp [Value.ownBlock]; done) | (simp [Value.ownBlock]; omega))
      have hz7 := hb7.size
      have HO7 := Lib.hid hown7
      have HB7 := Lib.hid hb7
      clear hown7 hb7 hg7
      refine hK.out _ _ ?_ (fun hHeld => ?_)
      · (try dsimp only)
        first
          | (refine ⟨?_, ?_, ?_, ?_⟩ <;> assumption)
          | (refine ⟨cell_keep ?_ m0, cell_keep ?_ m1, cell_keep ?_ m2, cell_keep ?_ m3⟩ <;> (go_grown; done))
          | (refine ⟨cell_keep ?_ z0, cell_keep ?_ z1, cell_keep ?_ z2, cell_keep ?_ z3⟩ <;> (go_grown; done))
      clear hK K
      try (unfold Act.put; dsimp only)
      refine wpAnyN_ready (rs := [9]) (by kernel_rfl) (by simp) ?_
      refine AllReadyN.cons rfl (fun K hK => ?_) ?_
      · refine step_append_waits (by rfl) (by rfl) _ _ (by rfl) w1.heap.size _ _ _ (by rfl) (own_below HO7.out (by go_grown)) Ad (n - (j + 1)) (c - (j + 1)) (es.drop (j + 1)) (by rw [List.length_drop, HL.out]) (by first | (simp [Act.eval]; exact HAD.out _ _ rfl rfl) | (simp [Act.eval, Act.put]; exact HAD.out _ _ rfl rfl)) (HRD.out _ (hbA.trans ((HB7.out.trans (Below.mono (show Below w7.heap.size w7 _ by go_grown) hz7)).mono hbA.size))) (fun h => absurd h hAdn) (by first | omega | (simp; done) | (simp; omega)) (by omega) ?_
        intro v8 w8 hown8 hg8
        have hb8 : Below w1.heap.size w1 w8 := Below.grown (HB7.out.trans (Below.mono (show Below w7.heap.size w7 _ by go_grown) hz7)) hg8 (by first | omega | (simp; done) | (simp; omega)) (fun q hq => by have := (HO7.out.lt q hq).1; omega)
        have hv7 : ∀ q, v7.ownBlock = some q → w1.heap.size ≤ q := fun q hq => (HO7.out.lt q hq).1
        have hgx1 : gx < w1.heap.size := by omega
        have z0 := append_cell hg8 (by go_grown) z0 (fun e => by have := hv7 _ e; omega)
        have z1 := append_cell hg8 (by go_grown) z1 (fun e => by have := hv7 _ e; omega)
        have z2 := append_cell hg8 (by go_grown) z2 (fun e => by have := hv7 _ e; omega)
        have z3 := append_cell hg8 (by go_grown) z3 (fun e => by have := hv7 _ e; omega)
        have hz8 := hb8.size
        have hk8 := (hb8.block w.heap.size hw1).trans HZ.out
        have u0 : w8.cell? ⟨w.heap.size, 0, none⟩ = some (.int .i64 0) := by simp [World.cell?, hk8]
        have u1 : w8.cell? ⟨w.heap.size, 1, none⟩ = some (.int .i64 0) := by simp [World.cell?, hk8]
        have u2 : w8.cell? ⟨w.heap.size, 2, none⟩ = some (.int .i64 0) := by simp [World.cell?, hk8]
        have u3 : w8.cell? ⟨w.heap.size, 3, none⟩ = some (.bool false) := by simp [World.cell?, hk8]
        have d0 := frozen_of7 hk8 (j := 0)
        have d1 := frozen_of7 hk8 (j := 1)
        have d2 := frozen_of7 hk8 (j := 2)
        have d3 := frozen_of7 hk8 (j := 3)
        obtain ⟨q0, q1, q2, q3⟩ := set4 u0 u1 u2 u3 (.int .i64 ex) (.int .i64 es') (.int .i64 em) (.bool eu)
        have hv8 : v8.ownBlock ≠ some w.heap.size := fun e => by have := (hown8.lt _ e).1; omega
        have HO8 := Lib.hid hown8
        have HB8 := Lib.hid hb8
        clear hown8 hb8 hg8 hk8 hv7
        refine hK.out _ _ ?_ (fun hHeld => ?_)
        · (try dsimp only)
          first
            | (refine ⟨?_, ?_, ?_, ?_⟩ <;> assumption)
            | (refine ⟨cell_keep ?_ m0, cell_keep ?_ m1, cell_keep ?_ m2, cell_keep ?_ m3⟩ <;> (go_grown; done))
            | (refine ⟨cell_keep ?_ z0, cell_keep ?_ z1, cell_keep ?_ z2, cell_keep ?_ z3⟩ <;> (go_grown; done))
        clear hK K
        try (unfold Act.put; dsimp only)
        refine wpAnyN_take [15, 16] (i := 14) (v := ?_) rfl (by kernel_rfl) (by kernel_rfl) (by kernel_rfl) (by kernel_rfl) (by kernel_rfl) (fun _ _ _ h => h) (Or.inl ⟨by rfl, ?_⟩) (by assumption) ?_
        rotate_left
        focus
          intro w hSw
          (try dsimp only at hSw)
          go_simp
          try with_reducible rfl
        try (unfold Act.put; dsimp only)
        refine wpAnyN_ready (rs := [15]) (by kernel_rfl) (by simp) ?_
        refine AllReadyN.last rfl rfl (fun K hK => ?_) ?_
        · go_simp
          refine hK.out _ _ ?_
          clear hK K
          try (unfold Act.put; dsimp only)
          refine wpAnyN_ready (rs := [16]) (by kernel_rfl) (by simp) ?_
          refine AllReadyN.last rfl rfl (fun K hK => ?_) ?_
          · go_simp
            refine hK.out _ _ ?_
            clear hK K
            try (unfold Act.put; dsimp only)
            refine wpAnyN_done (by kernel_rfl) ?_ _
            try rw [HAD.out _ _ rfl rfl]
            go_wp2
            all_goals
              refine bodyPost_ret (by simp [results, Try.results12, go_sem, q0, q1, q2, q3] <;> rfl) rfl (HDL'.out _ _ _ ?_ ⟨v8, rfl, ?_⟩)
              · have hwle : w.heap.size ≤ w1.heap.size := Nat.le_of_lt hw1
                exact (((Below.setCell (Below.setCell (Below.setCell (Below.setCell (hbA.trans (HB8.out.mono hbA.size)) (Nat.le_refl _) _) (Nat.le_refl _) _) (Nat.le_refl _) _) (Nat.le_refl _) _)))
              · have hlen : (es.take j ++ es.drop (j + 1)).length = 0 + j + (n - (j + 1)) := by
                  rw [List.length_append, List.length_take, List.length_drop, HL.out]; omega
                rw [hlen, flatW_append]
                have h9 := own_weaken (B' := w.heap.size) HO8.out (Nat.le_of_lt hw1)
                simp only [List.nil_append] at h9
                exact own_stored (own_stored (own_stored (own_stored h9 hv8 _) hv8 _) hv8 _) hv8 _
          exact AllReadyN.nil
        exact AllReadyN.nil
      exact AllReadyN.nil
    exact AllReadyN.nil
  exact AllReadyN.nil
end Go.Proofs.Ytpbgdldaojpjkaa

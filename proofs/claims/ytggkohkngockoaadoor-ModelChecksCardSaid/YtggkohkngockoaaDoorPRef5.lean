/-
  catchboltref20.granted, began: may a lock be granted, may a transaction begin? No conditions.
-/
import Derived.Test.YtggkohkngockoaaDoorPRef2
namespace Go.Proofs.YtggkohkngockoaaDoor
open Go.ChangeShapes Go.WideShapes Go.ChangeAt Go.RowKit Go.Maps
set_option linter.unusedVariables false
set_option linter.unusedSimpArgs false


theorem rgrant_no {es : List Ev} {x : RTx} {e : Ev} (h : ¬ (¬ x.mode = 0 ∧ x.table = e.table ∧ x.row = e.row)) : grantedR es x e = false := by
  unfold grantedR; rw [decide_eq_false h]; rfl
theorem rgrant_least {es : List Ev} {x : RTx} {e : Ev} (h : ¬ leastI (modeR es e.tx e.table e.row) x.mode = e.mode) : grantedR es x e = false := by
  unfold grantedR; rw [decide_eq_false h]; simp
theorem rgrant_at {es : List Ev} {x : RTx} {e : Ev} (h : ¬ x.mode = 0 ∧ x.table = e.table ∧ x.row = e.row) (h2 : leastI (modeR es e.tx e.table e.row) x.mode = e.mode) : grantedR es x e = (decide (e.row = 0) || (decide (needE x.mode = 0) && covB (modeR es e.tx e.table 0) (needI x.mode))) := by
  unfold grantedR; rw [decide_eq_true h, decide_eq_true h2]; rfl
set_option maxRecDepth 100000 in
set_option maxHeartbeats 8000000 in
theorem rgranted_any (A : Option Addr) (n cp : Nat) (es : List Ev) (x : RTx) (e : Ev) (w : World) (hr : RdE w A es) (hl : es.length = n) (hn : n ≤ 1000) (hm1 : 0 ≤ modeR es e.tx e.table e.row ∧ modeR es e.tx e.table e.row ≤ 4) (hm2 : 0 ≤ x.mode ∧ x.mode ≤ 4) :
    Calls Tryd.prog 30 #[.slice A n cp, .agg (ofC x), .agg #[.int .i64 e.kind, .int .i64 e.client, .int .i64 e.tx, .int .i64 e.table, .int .i64 e.row, .int .i64 e.mode, .int .i64 e.code]] w fun r w' => r = .returned (.bool (grantedR es x e)) ∧ Below w.heap.size w w' := by
  have HNO := Lib.hid (fun h => rgrant_no (es := es) (x := x) (e := e) h)
  have HLE := Lib.hid (fun h => rgrant_least (es := es) (x := x) (e := e) h)
  have HAT := Lib.hid (fun h => rgrant_at (es := es) (x := x) (e := e) h)
  unfold ofC
  obtain ⟨x0, x1, x2, x3, x4, x5⟩ := x
  obtain ⟨ek, ec, ex, et, er, em, eq⟩ := e
  obtain ⟨w1, hw1⟩ : ∃ W, (w.alloc (.cells #[.int .i64 x0, .int .i64 x1, .int .i64 x2, .int .i64 x3, .int .i64 x4, .bool x5] 77)).alloc (.cells #[.int .i64 ek, .int .i64 ec, .int .i64 ex, .int .i64 et, .int .i64 er, .int .i64 em, .int .i64 eq] 43) = W := ⟨_, rfl⟩
  have hb1 : Below w.heap.size w w1 := by rw [← hw1]; go_grown
  have hs1 : w1.heap.size = w.heap.size + 2 := by rw [← hw1]; simp
  have t1 : w1.heap[w.heap.size]? = some (.cells #[.int .i64 x0, .int .i64 x1, .int .i64 x2, .int .i64 x3, .int .i64 x4, .bool x5] 77 (0, 0)) := by rw [← hw1, heap_push, if_neg (by simp), heap_push, if_pos rfl]
  have e1 : w1.heap[w.heap.size + 1]? = some (.cells #[.int .i64 ek, .int .i64 ec, .int .i64 ex, .int .i64 et, .int .i64 er, .int .i64 em, .int .i64 eq] 43 (0, 0)) := by rw [← hw1, heap_push, if_pos (by simp)]
  have HR := Lib.hid hr
  have HL := Lib.hid hl
  have HW1 := Lib.hid hw1
  have HB1 := Lib.hid hb1
  have HS1 := Lib.hid hs1
  have HT1 := Lib.hid t1
  have HE1 := Lib.hid e1
  have u2 := heap_cell t1 (j := 2) (u := .int .i64 x2) rfl
  have u3 := heap_cell t1 (j := 3) (u := .int .i64 x3) rfl
  have u4 := heap_cell t1 (j := 4) (u := .int .i64 x4) rfl
  have v2 := heap_cell e1 (j := 2) (u := .int .i64 ex) rfl
  have v3 := heap_cell e1 (j := 3) (u := .int .i64 et) rfl
  have v4 := heap_cell e1 (j := 4) (u := .int .i64 er) rfl
  have v5 := heap_cell e1 (j := 5) (u := .int .i64 em) rfl
  clear hr hl hw1 hb1 hs1 t1 e1
  go_enter Tryd.func30, Tryd.ntmps30
  go_wp2_with fail
  rw [HW1.out]
  try dsimp only at hm1
  try dsimp only at hm2
  try dsimp only at HNO
  try dsimp only at HLE
  try dsimp only at HAT
  by_cases h4 : x4 = 0
  · subst h4
    have HN := Lib.hid (HNO.out (fun q => q.1 rfl))
    go_quiet (fail)
    go_wp2
    go_ret
    exact ⟨by rw [HN.out]; rfl, below_drewN HB1.out _⟩
  have h4b : (x4 == 0) = false := by simpa using h4
  by_cases h2 : x2 = et
  rotate_left
  · have h2b : (x2 == et) = false := by simpa using h2
    have h2c : (x2 != et) = true := by simpa using h2
    have HN := Lib.hid (HNO.out (fun q => h2 q.2.1))
    clear h2 h4
    go_quiet (fail)
    go_wp2
    go_ret
    exact ⟨by rw [HN.out]; rfl, below_drewN HB1.out _⟩
  subst h2
  by_cases h3 : x3 = er
  rotate_left
  · have h3b : (x3 == er) = false := by simpa using h3
    have h3c : (x3 != er) = true := by simpa using h3
    have HN := Lib.hid (HNO.out (fun q => h3 q.2.2))
    clear h3 h4
    go_quiet (fail)
    go_wp2
    go_ret
    exact ⟨by rw [HN.out]; rfl, below_drewN HB1.out _⟩
  subst h3
  have HAT2 := Lib.hid (HAT.out ⟨h4, rfl, rfl⟩)
  obtain ⟨m1, hmm⟩ : ∃ m1, modeR es ex x2 x3 = m1 := ⟨_, rfl⟩
  rw [hmm] at hm1 HLE HAT2
  have HM := Lib.hid (fun W (hb : Below w.heap.size w W) => mode_any A n cp es ex x2 x3 W (HR.out.below hb (Nat.le_refl _)) HL.out hn)
  rw [hmm] at HM
  have HLL := Lib.hid (fun W => rleast_ok m1 x4 W hm1 hm2)
  obtain ⟨lm, hlm⟩ : ∃ lm, leastI m1 x4 = lm := ⟨_, rfl⟩
  rw [hlm] at HLL HLE HAT2
  have HM1 := Lib.hid hm1
  have HM2 := Lib.hid hm2
  clear hmm hlm hm1 hm2 h4 HNO HAT
  refine wp_region_N (S := (fun w' => (w'.cell? ⟨w.heap.size, 2, none⟩ = some (.int .i64 x2) ∧ w'.cell? ⟨w.heap.size, 3, none⟩ = some (.int .i64 x3) ∧ w'.cell? ⟨w.heap.size, 4, none⟩ = some (.int .i64 x4)) ∧ w'.cell? ⟨w.heap.size + 1, 2, none⟩ = some (.int .i64 ex) ∧ w'.cell? ⟨w.heap.size + 1, 3, none⟩ = some (.int .i64 x2) ∧ w'.cell? ⟨w.heap.size + 1, 4, none⟩ = some (.int .i64 x3) ∧ w'.cell? ⟨w.heap.size + 1, 5, none⟩ = some (.int .i64 em))) (fun i => true) (by kernel_rfl) ?_ (fun hHeld => ?_)
  · (try dsimp only)
    first
      | (refine ⟨⟨?_, ?_, ?_⟩, ?_, ?_, ?_, ?_⟩ <;> with_reducible assumption)
      | (refine ⟨⟨cell_keep ?_ u2, cell_keep ?_ u3, cell_keep ?_ u4⟩, cell_keep ?_ v2, cell_keep ?_ v3, cell_keep ?_ v4, cell_keep ?_ v5⟩ <;> first | exact HBW.out | (go_grown; done))
  refine wpAnyN_take [1, 2, 3, 4, 5, 6, 7, 8, 9, 10, 11, 12, 13, 14, 15, 16, 17, 18, 19, 20, 21, 22, 23] (i := 0) (v := ?_) rfl (by kernel_rfl) (by kernel_rfl) (by kernel_rfl) (by kernel_rfl) (by kernel_rfl) (fun _ _ _ h => h) (Or.inl ⟨by first | kernel_rfl | rfl, ?_⟩) (by assumption) ?_
  rotate_left
  focus
    intro w hSw
    (try dsimp only at hSw)
    go_simp
    try with_reducible rfl
  (try change wpAnyN _ _ _ _ _ _ _ _ (Act.put _ (some 9) _) _)
  try (unfold Act.put; dsimp only)
  refine wpAnyN_take [2, 3, 4, 5, 6, 7, 8, 9, 10, 11, 12, 13, 14, 15, 16, 17, 18, 19, 20, 21, 22, 23] (i := 1) (v := ?_) rfl (by kernel_rfl) (by kernel_rfl) (by kernel_rfl) (by kernel_rfl) (by kernel_rfl) (fun _ _ _ h => h) (Or.inl ⟨by first | kernel_rfl | rfl, ?_⟩) (by assumption) ?_
  rotate_left
  focus
    intro w hSw
    (try dsimp only at hSw)
    go_simp
    try with_reducible rfl
  (try change wpAnyN _ _ _ _ _ _ _ _ (Act.put _ (some 10) _) _)
  try (unfold Act.put; dsimp only)
  refine wpAnyN_take [3, 4, 5, 6, 7, 8, 9, 10, 11, 12, 13, 14, 15, 16, 17, 18, 19, 20, 21, 22, 23] (i := 2) (v := ?_) rfl (by kernel_rfl) (by kernel_rfl) (by kernel_rfl) (by kernel_rfl) (by kernel_rfl) (fun _ _ _ h => h) (Or.inl ⟨by first | kernel_rfl | rfl, ?_⟩) (by assumption) ?_
  rotate_left
  focus
    intro w hSw
    (try dsimp only at hSw)
    go_simp
    try with_reducible rfl
  (try change wpAnyN _ _ _ _ _ _ _ _ (Act.put _ (some 11) _) _)
  try (unfold Act.put; dsimp only)
  refine wpAnyN_take [4, 5, 6, 7, 8, 9, 10, 11, 12, 13, 14, 15, 16, 17, 18, 19, 20, 21, 22, 23] (i := 3) (v := ?_) rfl (by kernel_rfl) (by kernel_rfl) (by kernel_rfl) (by kernel_rfl) (by kernel_rfl) (fun _ _ _ h => h) (Or.inl ⟨by first | kernel_rfl | rfl, ?_⟩) (by assumption) ?_
  rotate_left
  focus
    intro w hSw
    (try dsimp only at hSw)
    go_simp
    try with_reducible rfl
  (try change wpAnyN _ _ _ _ _ _ _ _ (Act.put _ (some 12) _) _)
  try (unfold Act.put; dsimp only)
  refine wpAnyN_take [5, 8, 9, 10, 11, 12, 13, 14, 15, 16, 17, 18, 19, 20, 21, 22, 23] (i := 4) (v := ?_) rfl (by kernel_rfl) (by kernel_rfl) (by kernel_rfl) (by kernel_rfl) (by kernel_rfl) (fun _ _ _ h => h) (Or.inl ⟨by first | kernel_rfl | rfl, ?_⟩) (by assumption) ?_
  rotate_left
  focus
    intro w hSw
    (try dsimp only at hSw)
    go_simp
    try with_reducible rfl
  (try change wpAnyN _ _ _ _ _ _ _ _ (Act.put _ (some 13) _) _)
  try (unfold Act.put; dsimp only)
  refine wpAnyN_take [8, 9, 10, 11, 12, 13, 14, 15, 16, 17, 18, 19, 20, 21, 22, 23] (i := 5) (v := ?_) rfl (by kernel_rfl) (by kernel_rfl) (by kernel_rfl) (by kernel_rfl) (by kernel_rfl) (fun _ _ _ h => h) (Or.inl ⟨by first | kernel_rfl | rfl, ?_⟩) (by assumption) ?_
  rotate_left
  focus
    intro w hSw
    (try dsimp only at hSw)
    go_simp
    try with_reducible rfl
  (try change wpAnyN _ _ _ _ _ _ _ _ (Act.put _ (some 14) _) _)
  try (unfold Act.put; dsimp only)
  refine wpAnyN_take [7, 8, 9, 10, 11, 12, 13, 14, 15, 16, 17, 18, 19, 20, 21, 22, 23] (i := 6) (v := ?_) rfl (by kernel_rfl) (by kernel_rfl) (by kernel_rfl) (by kernel_rfl) (by kernel_rfl) (fun _ _ _ h => h) (Or.inl ⟨by first | kernel_rfl | rfl, ?_⟩) (by assumption) ?_
  rotate_left
  focus
    intro w hSw
    (try dsimp only at hSw)
    go_simp
    try with_reducible rfl
  (try change wpAnyN _ _ _ _ _ _ _ _ (Act.put _ (some 15) _) _)
  try (unfold Act.put; dsimp only)
  refine wpAnyN_take [8, 9, 10, 11, 12, 13, 14, 15, 16, 17, 18, 19, 20, 21, 22, 23] (i := 7) (v := ?_) rfl (by kernel_rfl) (by kernel_rfl) (by kernel_rfl) (by kernel_rfl) (by kernel_rfl) (fun _ _ _ h => h) (Or.inl ⟨by first | kernel_rfl | rfl, ?_⟩) (by assumption) ?_
  rotate_left
  focus
    intro w hSw
    (try dsimp only at hSw)
    go_simp
    try with_reducible rfl
  (try change wpAnyN _ _ _ _ _ _ _ _ (Act.put _ (some 16) _) _)
  try (unfold Act.put; dsimp only)
  refine wpAnyN_take [9, 10, 11, 12, 13, 14, 15, 16, 17, 18, 19, 20, 21, 22, 23] (i := 8) (v := ?_) rfl (by kernel_rfl) (by kernel_rfl) (by kernel_rfl) (by kernel_rfl) (by kernel_rfl) (fun _ _ _ h => h) (Or.inl ⟨by first | kernel_rfl | rfl, ?_⟩) (by assumption) ?_
  rotate_left
  focus
    intro w hSw
    (try dsimp only at hSw)
    go_simp
    try with_reducible rfl
  (try change wpAnyN _ _ _ _ _ _ _ _ (Act.put _ (some 17) _) _)
  try (unfold Act.put; dsimp only)
  refine wpAnyN_take [10, 11, 12, 13, 14, 15, 16, 17, 18, 19, 20, 21, 22, 23] (i := 9) (v := ?_) rfl (by kernel_rfl) (by kernel_rfl) (by kernel_rfl) (by kernel_rfl) (by kernel_rfl) (fun _ _ _ h => h) (Or.inl ⟨by first | kernel_rfl | rfl, ?_⟩) (by assumption) ?_
  rotate_left
  focus
    intro w hSw
    (try dsimp only at hSw)
    go_simp
    try with_reducible rfl
  (try change wpAnyN _ _ _ _ _ _ _ _ (Act.put _ (some 18) _) _)
  try (unfold Act.put; dsimp only)
  refine wpAnyN_take [11, 12, 13, 14, 15, 16, 17, 18, 19, 20, 21, 22, 23] (i := 10) (v := ?_) rfl (by kernel_rfl) (by kernel_rfl) (by kernel_rfl) (by kernel_rfl) (by kernel_rfl) (fun _ _ _ h => h) (Or.inl ⟨by first | kernel_rfl | rfl, ?_⟩) (by assumption) ?_
  rotate_left
  focus
    intro w hSw
    (try dsimp only at hSw)
    go_simp
    try with_reducible rfl
  (try change wpAnyN _ _ _ _ _ _ _ _ (Act.put _ (some 19) _) _)
  try (unfold Act.put; dsimp only)
  refine wpAnyN_take [16, 19, 22, 23] (i := 11) (v := ?_) rfl (by kernel_rfl) (by kernel_rfl) (by kernel_rfl) (by kernel_rfl) (by kernel_rfl) (fun _ _ _ h => h) (Or.inl ⟨by first | kernel_rfl | rfl, ?_⟩) (by assumption) ?_
  rotate_left
  focus
    intro w hSw
    (try dsimp only at hSw)
    go_simp
    try with_reducible rfl
  (try change wpAnyN _ _ _ _ _ _ _ _ (Act.put _ (some 20) _) _)
  try (unfold Act.put; dsimp only)
  refine wpAnyN_take [13, 16, 19, 22, 23] (i := 12) (v := ?_) rfl (by kernel_rfl) (by kernel_rfl) (by kernel_rfl) (by kernel_rfl) (by kernel_rfl) (fun _ _ _ h => h) (Or.inl ⟨by first | kernel_rfl | rfl, ?_⟩) (by assumption) ?_
  rotate_left
  focus
    intro w hSw
    (try dsimp only at hSw)
    go_simp
    try with_reducible rfl
  (try change wpAnyN _ _ _ _ _ _ _ _ (Act.put _ (some 21) _) _)
  try (unfold Act.put; dsimp only)
  refine wpAnyN_take [16, 19, 22, 23] (i := 13) (v := ?_) rfl (by kernel_rfl) (by kernel_rfl) (by kernel_rfl) (by kernel_rfl) (by kernel_rfl) (fun _ _ _ h => h) (Or.inl ⟨by first | kernel_rfl | rfl, ?_⟩) (by assumption) ?_
  rotate_left
  focus
    intro w hSw
    (try dsimp only at hSw)
    go_simp
    try with_reducible rfl
  (try change wpAnyN _ _ _ _ _ _ _ _ (Act.put _ (some 22) _) _)
  try (unfold Act.put; dsimp only)
  refine wpAnyN_take [15, 16, 19, 22, 23] (i := 14) (v := ?_) rfl (by kernel_rfl) (by kernel_rfl) (by kernel_rfl) (by kernel_rfl) (by kernel_rfl) (fun _ _ _ h => h) (Or.inl ⟨by first | kernel_rfl | rfl, ?_⟩) (by assumption) ?_
  rotate_left
  focus
    intro w hSw
    (try dsimp only at hSw)
    go_simp
    try with_reducible rfl
  (try change wpAnyN _ _ _ _ _ _ _ _ (Act.put _ (some 23) _) _)
  try (unfold Act.put; dsimp only)
  refine wpAnyN_take [16, 19, 22, 23] (i := 15) (v := ?_) rfl (by kernel_rfl) (by kernel_rfl) (by kernel_rfl) (by kernel_rfl) (by kernel_rfl) (fun _ _ _ h => h) (Or.inl ⟨by first | kernel_rfl | rfl, ?_⟩) (by assumption) ?_
  rotate_left
  focus
    intro w hSw
    (try dsimp only at hSw)
    go_simp
    try with_reducible rfl
  (try change wpAnyN _ _ _ _ _ _ _ _ (Act.put _ (some 24) _) _)
  try (unfold Act.put; dsimp only)
  refine wpAnyN_take [18, 19, 22, 23] (i := 17) (v := ?_) rfl (by kernel_rfl) (by kernel_rfl) (by kernel_rfl) (by kernel_rfl) (by kernel_rfl) (fun _ _ _ h => h) (Or.inl ⟨by first | kernel_rfl | rfl, ?_⟩) (by assumption) ?_
  rotate_left
  focus
    intro w hSw
    (try dsimp only at hSw)
    go_simp
    try with_reducible rfl
  (try change wpAnyN _ _ _ _ _ _ _ _ (Act.put _ (some 26) _) _)
  try (unfold Act.put; dsimp only)
  refine wpAnyN_take [19, 22, 23] (i := 18) (v := ?_) rfl (by kernel_rfl) (by kernel_rfl) (by kernel_rfl) (by kernel_rfl) (by kernel_rfl) (fun _ _ _ h => h) (Or.inl ⟨by first | kernel_rfl | rfl, ?_⟩) (by assumption) ?_
  rotate_left
  focus
    intro w hSw
    (try dsimp only at hSw)
    go_simp
    try with_reducible rfl
  (try change wpAnyN _ _ _ _ _ _ _ _ (Act.put _ (some 27) _) _)
  try (unfold Act.put; dsimp only)
  refine wpAnyN_take [21, 22, 23] (i := 20) (v := ?_) rfl (by kernel_rfl) (by kernel_rfl) (by kernel_rfl) (by kernel_rfl) (by kernel_rfl) (fun _ _ _ h => h) (Or.inl ⟨by first | kernel_rfl | rfl, ?_⟩) (by assumption) ?_
  rotate_left
  focus
    intro w hSw
    (try dsimp only at hSw)
    go_simp
    try with_reducible rfl
  (try change wpAnyN _ _ _ _ _ _ _ _ (Act.put _ (some 29) _) _)
  try (unfold Act.put; dsimp only)
  refine wpAnyN_take [22, 23] (i := 21) (v := ?_) rfl (by kernel_rfl) (by kernel_rfl) (by kernel_rfl) (by kernel_rfl) (by kernel_rfl) (fun _ _ _ h => h) (Or.inl ⟨by first | kernel_rfl | rfl, ?_⟩) (by assumption) ?_
  rotate_left
  focus
    intro w hSw
    (try dsimp only at hSw)
    go_simp
    try with_reducible rfl
  (try change wpAnyN _ _ _ _ _ _ _ _ (Act.put _ (some 30) _) _)
  try (unfold Act.put; dsimp only)
  refine wpAnyN_ready (rs := [16]) (by kernel_rfl) (by simp) ?_
  refine AllReadyN.cons rfl (fun K hK => ?_) ?_
  · go_simp
    go_at_call 43
    refine (HM.out _ (HB1.out.trans (Below.mono (show Below w1.heap.size w1 _ by first | exact Below.refl _ _ | (go_grown; done)) HB1.out.size))).mono ?_
    rintro e5 w5 ⟨rfl, hb5⟩
    have HBW := Lib.hid (Below.trans (show Below w1.heap.size w1 _ by first | exact Below.refl _ _ | (go_grown; done)) (hb5.mono (by first | exact Nat.le_refl _ | (simp; done))))
    clear hb5
    dsimp only
    refine hK.out _ _ ?_ (fun hHeld => ?_)
    · (try dsimp only)
      first
        | (refine ⟨⟨?_, ?_, ?_⟩, ?_, ?_, ?_, ?_⟩ <;> with_reducible assumption)
        | (refine ⟨⟨cell_keep ?_ u2, cell_keep ?_ u3, cell_keep ?_ u4⟩, cell_keep ?_ v2, cell_keep ?_ v3, cell_keep ?_ v4, cell_keep ?_ v5⟩ <;> first | exact HBW.out | (go_grown; done))
    clear hK K
    (try change wpAnyN _ _ _ _ _ _ _ _ (Act.put _ (some 25) _) _)
    try (unfold Act.put; dsimp only)
    refine wpAnyN_ready (rs := [19]) (by kernel_rfl) (by simp) ?_
    refine AllReadyN.cons rfl (fun K hK => ?_) ?_
    · go_simp
      go_at_call 42
      refine (HLL.out _).mono ?_
      rintro e w6 ⟨rfl, rfl⟩
      dsimp only
      refine hK.out _ _ ?_ (fun hHeld => ?_)
      · (try dsimp only)
        first
          | (refine ⟨⟨?_, ?_, ?_⟩, ?_, ?_, ?_, ?_⟩ <;> with_reducible assumption)
          | (refine ⟨⟨cell_keep ?_ u2, cell_keep ?_ u3, cell_keep ?_ u4⟩, cell_keep ?_ v2, cell_keep ?_ v3, cell_keep ?_ v4, cell_keep ?_ v5⟩ <;> first | exact HBW.out | (go_grown; done))
      clear hK K
      (try change wpAnyN _ _ _ _ _ _ _ _ (Act.put _ (some 28) _) _)
      try (unfold Act.put; dsimp only)
      refine wpAnyN_take [23] (i := 22) (v := ?_) rfl (by kernel_rfl) (by kernel_rfl) (by kernel_rfl) (by kernel_rfl) (by kernel_rfl) (fun _ _ _ h => h) (Or.inl ⟨by first | kernel_rfl | rfl, ?_⟩) (by assumption) ?_
      rotate_left
      focus
        intro w hSw
        (try dsimp only at hSw)
        go_simp
        try with_reducible rfl
      (try change wpAnyN _ _ _ _ _ _ _ _ (Act.put _ (some 31) _) _)
      try (unfold Act.put; dsimp only)
      refine wpAnyN_take [] (i := 23) (v := ?_) rfl (by kernel_rfl) (by kernel_rfl) (by kernel_rfl) (by kernel_rfl) (by kernel_rfl) (fun _ _ _ h => h) (Or.inl ⟨by first | kernel_rfl | rfl, ?_⟩) (by assumption) ?_
      rotate_left
      focus
        intro w hSw
        (try dsimp only at hSw)
        go_simp
        try with_reducible rfl
      (try change wpAnyN _ _ _ _ _ _ _ _ (Act.put _ (some 32) _) _)
      try (unfold Act.put; dsimp only)
      refine wpAnyN_done (by kernel_rfl) ?_ _
      by_cases hle : lm = em
      · have hb : (lm != em) = false := by simpa using hle
        have HG := Lib.hid (HAT2.out hle)
        clear hle HLE HAT2
        rw [hb]
        obtain ⟨⟨y2, y3, y4⟩, z2, z3, z4, z5⟩ := hHeld
        by_cases h3 : x3 = 0
        · subst h3
          have hg := HG.out
          rw [show decide ((0 : Int) = 0) = true from rfl, Bool.true_or] at hg
          have HG2 := Lib.hid hg
          clear hg HG
          go_wp2
          go_ret
          exact ⟨by rw [HG2.out] <;> rfl, HB1.out.trans (HBW.out.mono HB1.out.size)⟩
        · have h3b : (x3 == 0) = false := by simpa using h3
          have hg := HG.out
          rw [decide_eq_false h3, Bool.false_or] at hg
          have HG2 := Lib.hid hg
          clear h3 hg HG
          have HNE := Lib.hid (fun W => rneed_any x4 W)
          obtain ⟨ni, hni⟩ : ∃ z, needI x4 = z := ⟨_, rfl⟩
          obtain ⟨ne, hne⟩ : ∃ z, needE x4 = z := ⟨_, rfl⟩
          rw [hni, hne] at HNE HG2
          clear hni hne
          by_cases h0 : ne = 0
          · subst h0
            obtain ⟨m2, hm2⟩ : ∃ z, modeR es ex x2 0 = z := ⟨_, rfl⟩
            have HM2 := Lib.hid (fun W (hb : Below w.heap.size w W) => mode_any A n cp es ex x2 0 W (HR.out.below hb (Nat.le_refl _)) HL.out hn)
            rw [hm2] at HM2 HG2
            have HCV := Lib.hid (fun W => rcov_any m2 ni W)
            have hg := HG2.out
            rw [show decide ((0 : Int) = 0) = true from rfl, Bool.true_and] at hg
            have HG3 := Lib.hid hg
            clear hm2 hg HG2
            obtain ⟨cv, hcv⟩ : ∃ z, covB m2 ni = z := ⟨_, rfl⟩
            rw [hcv] at HCV HG3
            clear hcv
            have HMW := Lib.hid (HM2.out w5 (HB1.out.trans (HBW.out.mono HB1.out.size)))
            go_wp2_with (first
              | (go_at_call 44; refine (HNE.out _).mono ?_; rintro e w' ⟨rfl, rfl⟩; done)
              | (go_at_call 44; refine (HNE.out _).mono ?_; rintro e w' ⟨rfl, rfl⟩)
              | (go_at_call 43; refine HMW.out.mono ?_; rintro e w9 ⟨rfl, hb9⟩; have HB9 := Lib.hid hb9; clear hb9)
              | (go_at_call 45; refine (HCV.out _).mono ?_; rintro e w' ⟨rfl, rfl⟩))
            all_goals go_ret
            all_goals exact ⟨by rw [HG3.out] <;> rfl, HB1.out.trans ((HBW.out.trans (HB9.out.mono HBW.out.size)).mono HB1.out.size)⟩
          · have h0b : (ne == 0) = false := by simpa using h0
            have hg := HG2.out
            rw [decide_eq_false h0, Bool.false_and] at hg
            have HG3 := Lib.hid hg
            clear h0 hg HG2
            go_wp2_with (go_at_call 44; refine (HNE.out _).mono ?_; rintro e w' ⟨rfl, rfl⟩)
            try go_wp2
            all_goals go_ret
            all_goals exact ⟨by rw [HG3.out] <;> rfl, HB1.out.trans (HBW.out.mono HB1.out.size)⟩
      · have hb : (lm != em) = true := by simpa using hle
        have HG := Lib.hid (HLE.out hle)
        clear hle
        rw [hb]
        go_wp2
        go_ret
        exact ⟨by rw [HG.out] <;> rfl, HB1.out.trans (HBW.out.mono HB1.out.size)⟩
    exact AllReadyN.nil
  exact AllReadyN.nil

theorem rbeg_last {es : List Ev} {e : Ev} (h : ¬ e.tx = lastR es + 1) : beganR es e = false := by
  unfold beganR; rw [decide_eq_false h]; rfl
theorem rbeg_all {es : List Ev} {e : Ev} (h : e.tx = lastR es + 1) (ha : ∀ q, q < es.length → freeR es e.client (es.getD q Ev.none) = true) : beganR es e = true := by
  unfold beganR
  rw [decide_eq_true h, Bool.true_and, List.all_eq_true]
  intro x hx
  obtain ⟨q, hq, rfl⟩ := List.mem_iff_getElem.1 hx
  have := ha q hq
  rwa [List.getD_eq_getElem?_getD, List.getElem?_eq_getElem hq] at this
theorem rbeg_no {es : List Ev} {e : Ev} {q : Nat} (hq : q < es.length) (ha : freeR es e.client (es.getD q Ev.none) = false) : beganR es e = false := by
  unfold beganR
  rw [Bool.and_eq_false_iff]
  right
  rw [List.all_eq_false]
  refine ⟨es.getD q Ev.none, ?_, by rw [ha]; simp⟩
  rw [List.getD_eq_getElem?_getD, List.getElem?_eq_getElem hq]
  exact List.getElem_mem hq
set_option maxRecDepth 100000 in
set_option maxHeartbeats 8000000 in
theorem rbegan_any (A : Option Addr) (n cp : Nat) (es : List Ev) (e : Ev) (w : World) (hr : RdE w A es) (hl : es.length = n) (hn : n ≤ 1000) (hla : 0 ≤ lastR es ∧ lastR es ≤ 1000) :
    Calls Tryd.prog 29 #[.slice A n cp, .agg #[.int .i64 e.kind, .int .i64 e.client, .int .i64 e.tx, .int .i64 e.table, .int .i64 e.row, .int .i64 e.mode, .int .i64 e.code]] w fun r w' => r = .returned (.bool (beganR es e)) ∧ Below w.heap.size w w' := by
  have HLS := Lib.hid (fun h => rbeg_last (es := es) (e := e) h)
  have HAL := Lib.hid (fun h => rbeg_all (es := es) (e := e) h)
  have HBN := Lib.hid (fun q h => rbeg_no (es := es) (e := e) (q := q) h)
  obtain ⟨a0, a1, a2, a3, a4, a5, a6⟩ := e
  try dsimp only at HLS
  try dsimp only at HAL
  try dsimp only at HBN
  obtain ⟨w1, hw1⟩ : ∃ W, w.alloc (.cells #[.int .i64 a0, .int .i64 a1, .int .i64 a2, .int .i64 a3, .int .i64 a4, .int .i64 a5, .int .i64 a6] 43) = W := ⟨_, rfl⟩
  have hb1 : Below w.heap.size w w1 := by rw [← hw1]; go_grown
  have hs1 : w1.heap.size = w.heap.size + 1 := by rw [← hw1]; simp
  have e1 : w1.heap[w.heap.size]? = some (.cells #[.int .i64 a0, .int .i64 a1, .int .i64 a2, .int .i64 a3, .int .i64 a4, .int .i64 a5, .int .i64 a6] 43 (0, 0)) := by rw [← hw1, heap_push, if_pos rfl]
  have HR := Lib.hid hr
  have HL := Lib.hid hl
  have HW1 := Lib.hid hw1
  have HB1 := Lib.hid hb1
  have HS1 := Lib.hid hs1
  have v1 := heap_cell e1 (j := 1) (u := .int .i64 a1) rfl
  have v2 := heap_cell e1 (j := 2) (u := .int .i64 a2) rfl
  clear hr hl hw1 hb1 hs1 e1
  have HLA := Lib.hid (fun W (hb : Below w.heap.size w W) => last_any A n cp es W (HR.out.below hb (Nat.le_refl _)) HL.out hn)
  obtain ⟨L, hL⟩ : ∃ L, lastR es = L := ⟨_, rfl⟩
  rw [hL] at HLA HLS HAL hla
  clear hL
  have iw : IntKind.i64.wrap (L + 1) = L + 1 := by rw [IntKind.wrap_i64]; omega
  go_enter Tryd.func29, Tryd.ntmps29
  go_wp2_with fail
  rw [HW1.out]
  by_cases h1 : a2 = L + 1
  rotate_left
  · have h1b : (a2 != L + 1) = true := by simpa using h1
    have HN := Lib.hid (HLS.out h1)
    clear h1
    go_quiet ((go_at_call 41; exact Calls.quiet_of_same ((HLA.out _ (by first | exact below_drewN HB1.out _ | exact HB1.out | (go_grown; done))).mono (fun _ _ h => ⟨h.1, h.2.symm⟩))))
    go_wp2
    go_ret
    exact ⟨by rw [HN.out] <;> rfl, below_drewN HB1.out _⟩
  have h1b : (a2 != L + 1) = false := by simpa using h1
  have HALL := Lib.hid (HAL.out h1)
  have H1 := Lib.hid h1
  clear h1 HLS HAL
  go_quiet ((go_at_call 41; exact Calls.quiet_of_same ((HLA.out _ (by first | exact below_drewN HB1.out _ | exact HB1.out | (go_grown; done))).mono (fun _ _ h => ⟨h.1, h.2.symm⟩))))
  generalize hw2 : World.drewN w1 nq = w2
  have HB2 : Hid (Below w1.heap.size w1 w2) := Lib.hid (by rw [← hw2]; exact below_drewN (Below.refl _ _) _)
  clear hw2
  go_wp2
  go_loopw [5] (fun i wr => ∃ k : Nat, k ≤ n ∧ i = .int .i64 k ∧ Below w1.heap.size w1 wr ∧ ∀ q, q < k → freeR es a1 (es.getD q Ev.none) = true) (fun i _ => n - (intOf i).toNat)
  case atStart => exact ⟨0, Nat.zero_le _, rfl, HB2.out, fun q hq => absurd hq (Nat.not_lt_zero _)⟩
  case round =>
    obtain ⟨k, hk, rfl, hbr, hno⟩ := hrel
    have HBR := Lib.hid hbr
    have HNO := Lib.hid hno
    have y1 := cell_keep hbr v1
    clear hno hbr
    by_cases hlt : k < n
    · have hlt' : (k : Int) < n := by omega
      have HRR := Lib.hid (HR.out.below (HB1.out.trans (HBR.out.mono HB1.out.size)) (Nat.le_refl _))
      have hkl : k < es.length := by rw [HL.out]; exact hlt
      obtain ⟨ge, oe, hA, hc⟩ := (HRR.out)
      obtain ⟨rfl, lge⟩ := hA (by rw [HL.out]; omega)
      obtain ⟨p0, p1, p2, p3, p4, p5, p6⟩ := hc k hkl
      have HKL := Lib.hid hkl
      clear hA hc hkl
      obtain ⟨E, hE⟩ : ∃ E, es.getD k Ev.none = E := ⟨_, rfl⟩
      have HE := Lib.hid hE
      rw [hE] at p0 p1 p2 p3 p4 p5 p6
      clear hE
      obtain ⟨ek, ec, ex, et, er, em, eq⟩ := E
      simp only at p0 p1 p2 p3 p4 p5 p6
      have HFD : Hid (freeR es a1 (es.getD k Ev.none) = (decide (¬ (ek = 8 ∧ ec = a1)) && decide (¬ (ek = 1 ∧ ec = a1 ∧ (ofR es ex).state < 3)))) := Lib.hid (by rw [HE.out]; rfl)
      by_cases h8 : ek = 8
      · subst h8
        by_cases h9 : ec = a1
        · subst h9
          have HY := Lib.hid (HBN.out k HKL.out (HFD.out.trans (by simp)))
          go_wp2_with fail
          go_quiet (fail)
          go_wp2
          go_ret
          exact ⟨by rw [HY.out] <;> rfl, HB1.out.trans ((below_drewN HBR.out _).mono HB1.out.size)⟩
        · have h9b : (ec == a1) = false := by simpa using h9
          have HFR : Hid (freeR es a1 (es.getD k Ev.none) = true) := Lib.hid (HFD.out.trans (by simp [h9]))
          clear h9
          go_wp2_with fail
          go_quiet (fail)
          go_wp2_with fail
          go_quiet (fail)
          go_wp2
          go_roundw
          case rel => exact ⟨k + 1, by omega, by go_num, (below_drewN HBR.out _), fun q hq => by
            rcases Nat.lt_or_ge q k with h1 | h1
            · exact HNO.out q h1
            · rw [show q = k by omega]; exact HFR.out⟩
          case measure => simp [intOf]; omega
      · have h8b : (ek == 8) = false := by simpa using h8
        by_cases h1 : ek = 1
        · subst h1
          by_cases h9 : ec = a1
          · subst h9
            obtain ⟨⟨s0, s1, s2, s3, s4, s5⟩, hx⟩ : ∃ x, ofR es ex = x := ⟨_, rfl⟩
            have HOF := Lib.hid (fun W (hb : Below w1.heap.size w1 W) => of_any (some ⟨ge, oe, none⟩) n cp es ex W (HR.out.below (HB1.out.trans (hb.mono HB1.out.size)) (Nat.le_refl _)) HL.out hn)
            rw [hx] at HOF HFD
            unfold ofC at HOF
            try dsimp only at HOF
            try dsimp only at HFD
            clear hx
            by_cases h3 : s0 < 3
            · have HY := Lib.hid (HBN.out k HKL.out (HFD.out.trans (by simp [h3])))
              go_wp2_with fail
              go_quiet (fail)
              generalize hwq : World.drewN wr nq = wq
              have HBQ : Hid (Below w1.heap.size w1 wq) := Lib.hid (by rw [← hwq]; exact below_drewN HBR.out _)
              have z0 : wq.cell? ⟨ge, oe + k * 7, none⟩ = some (.int .i64 1) := by rw [← hwq]; exact p0
              have z1 : wq.cell? ⟨ge, oe + k * 7 + 1, none⟩ = some (.int .i64 ec) := by rw [← hwq]; exact p1
              have z2 : wq.cell? ⟨ge, oe + k * 7 + 2, none⟩ = some (.int .i64 ex) := by rw [← hwq]; exact p2
              have zc : wq.cell? ⟨w.heap.size, 1, none⟩ = some (.int .i64 ec) := by rw [← hwq]; exact y1
              have HOW := Lib.hid (fun W (hb : Below wq.heap.size wq W) => HOF.out W (HBQ.out.trans (hb.mono HBQ.out.size)))
              have lgq : ge < wq.heap.size := Nat.lt_of_lt_of_le lge (by rw [← hwq]; simp)
              clear hwq p0 p1 p2 p3 p4 p5 p6 y1 lge
              go_wp2_with fail
              refine wp_region_N (S := (fun w' => (w'.cell? ⟨ge, oe + k * 7, none⟩ = some (.int .i64 1) ∧ w'.cell? ⟨ge, oe + k * 7 + 1, none⟩ = some (.int .i64 ec) ∧ w'.cell? ⟨ge, oe + k * 7 + 2, none⟩ = some (.int .i64 ex)) ∧ w'.cell? ⟨w.heap.size, 1, none⟩ = some (.int .i64 ec))) (fun i => true) (by kernel_rfl) ?_ (fun hHeld => ?_)
              · (try dsimp only)
                first
                  | (refine ⟨⟨?_, ?_, ?_⟩, ?_⟩ <;> with_reducible assumption)
                  | (refine ⟨⟨cell_keep ?_ z0, cell_keep ?_ z1, cell_keep ?_ z2⟩, cell_keep ?_ zc⟩ <;> first | exact HB9.out | (go_grown; done))
              refine wpAnyN_take [2, 3, 4, 5, 6, 7, 8, 9, 10, 11, 12, 13, 14, 15, 16, 17, 18, 19, 20, 21, 22, 23, 24, 25, 26] (i := 0) (v := ?_) rfl (by kernel_rfl) (by kernel_rfl) (by kernel_rfl) (by kernel_rfl) (by kernel_rfl) (fun _ _ _ h => h) (Or.inl ⟨by first | kernel_rfl | rfl, ?_⟩) (by assumption) ?_
              rotate_left
              focus
                intro w hSw
                (try dsimp only at hSw)
                go_simp
                try with_reducible rfl
              (try change wpAnyN _ _ _ _ _ _ _ _ (Act.put _ (some 34) _) _)
              try (unfold Act.put; dsimp only)
              refine wpAnyN_take [2, 3, 4, 5, 6, 7, 8, 9, 10, 11, 12, 13, 14, 15, 16, 17, 18, 19, 20, 21, 22, 23, 24, 25, 26] (i := 1) (v := ?_) rfl (by kernel_rfl) (by kernel_rfl) (by kernel_rfl) (by kernel_rfl) (by kernel_rfl) (fun _ _ _ h => h) (Or.inl ⟨by first | kernel_rfl | rfl, ?_⟩) (by assumption) ?_
              rotate_left
              focus
                intro w hSw
                (try dsimp only at hSw)
                go_simp
                try with_reducible rfl
              (try change wpAnyN _ _ _ _ _ _ _ _ (Act.put _ (some 35) _) _)
              try (unfold Act.put; dsimp only)
              refine wpAnyN_take [3, 4, 5, 6, 7, 8, 9, 10, 11, 12, 13, 14, 15, 16, 17, 18, 19, 20, 21, 22, 23, 24, 25, 26] (i := 2) (v := ?_) rfl (by kernel_rfl) (by kernel_rfl) (by kernel_rfl) (by kernel_rfl) (by kernel_rfl) (fun _ _ _ h => h) (Or.inl ⟨by first | kernel_rfl | rfl, ?_⟩) (by assumption) ?_
              rotate_left
              focus
                intro w hSw
                (try dsimp only at hSw)
                go_simp
                try with_reducible rfl
              (try change wpAnyN _ _ _ _ _ _ _ _ (Act.put _ (some 36) _) _)
              try (unfold Act.put; dsimp only)
              refine wpAnyN_take [4, 5, 6, 7, 8, 9, 10, 11, 12, 13, 14, 15, 16, 17, 18, 19, 20, 21, 22, 23, 24, 25, 26] (i := 3) (v := ?_) rfl (by kernel_rfl) (by kernel_rfl) (by kernel_rfl) (by kernel_rfl) (by kernel_rfl) (fun _ _ _ h => h) (Or.inl ⟨by first | kernel_rfl | rfl, ?_⟩) (by assumption) ?_
              rotate_left
              focus
                intro w hSw
                (try dsimp only at hSw)
                go_simp
                try with_reducible rfl
              (try change wpAnyN _ _ _ _ _ _ _ _ (Act.put _ (some 37) _) _)
              try (unfold Act.put; dsimp only)
              refine wpAnyN_take [5, 6, 7, 8, 9, 10, 11, 12, 13, 14, 15, 16, 17, 18, 19, 20, 21, 22, 23, 24, 25, 26] (i := 4) (v := ?_) rfl (by kernel_rfl) (by kernel_rfl) (by kernel_rfl) (by kernel_rfl) (by kernel_rfl) (fun _ _ _ h => h) (Or.inl ⟨by first | kernel_rfl | rfl, ?_⟩) (by assumption) ?_
              rotate_left
              focus
                intro w hSw
                (try dsimp only at hSw)
                go_simp
                try with_reducible rfl
              (try change wpAnyN _ _ _ _ _ _ _ _ (Act.put _ (some 38) _) _)
              try (unfold Act.put; dsimp only)
              refine wpAnyN_take [6, 7, 8, 9, 10, 11, 12, 13, 14, 15, 16, 17, 18, 19, 20, 21, 22, 23, 24, 25, 26] (i := 5) (v := ?_) rfl (by kernel_rfl) (by kernel_rfl) (by kernel_rfl) (by kernel_rfl) (by kernel_rfl) (fun _ _ _ h => h) (Or.inl ⟨by first | kernel_rfl | rfl, ?_⟩) (by assumption) ?_
              rotate_left
              focus
                intro w hSw
                (try dsimp only at hSw)
                go_simp
                try with_reducible rfl
              (try change wpAnyN _ _ _ _ _ _ _ _ (Act.put _ (some 39) _) _)
              try (unfold Act.put; dsimp only)
              refine wpAnyN_take [7, 8, 9, 10, 11, 12, 13, 14, 15, 16, 17, 18, 19, 20, 21, 22, 23, 24, 25, 26] (i := 6) (v := ?_) rfl (by kernel_rfl) (by kernel_rfl) (by kernel_rfl) (by kernel_rfl) (by kernel_rfl) (fun _ _ _ h => h) (Or.inl ⟨by first | kernel_rfl | rfl, ?_⟩) (by assumption) ?_
              rotate_left
              focus
                intro w hSw
                (try dsimp only at hSw)
                go_simp
                try with_reducible rfl
              (try change wpAnyN _ _ _ _ _ _ _ _ (Act.put _ (some 40) _) _)
              try (unfold Act.put; dsimp only)
              refine wpAnyN_take [9, 10, 11, 14, 15, 16, 17, 18, 19, 20, 21, 22, 23, 24, 25, 26] (i := 7) (v := ?_) rfl (by kernel_rfl) (by kernel_rfl) (by kernel_rfl) (by kernel_rfl) (by kernel_rfl) (fun _ _ _ h => h) (Or.inl ⟨by first | kernel_rfl | rfl, ?_⟩) (by assumption) ?_
              rotate_left
              focus
                intro w hSw
                (try dsimp only at hSw)
                go_simp
                try with_reducible rfl
              (try change wpAnyN _ _ _ _ _ _ _ _ (Act.put _ (some 41) _) _)
              try (unfold Act.put; dsimp only)
              refine wpAnyN_take [9, 10, 11, 14, 15, 16, 17, 18, 19, 20, 21, 22, 23, 24, 25, 26] (i := 8) (v := ?_) rfl (by kernel_rfl) (by kernel_rfl) (by kernel_rfl) (by kernel_rfl) (by kernel_rfl) (fun _ _ _ h => h) (Or.inl ⟨by first | kernel_rfl | rfl, ?_⟩) (by assumption) ?_
              rotate_left
              focus
                intro w hSw
                (try dsimp only at hSw)
                go_simp
                try with_reducible rfl
              (try change wpAnyN _ _ _ _ _ _ _ _ (Act.put _ (some 42) _) _)
              try (unfold Act.put; dsimp only)
              refine wpAnyN_take [10, 11, 14, 15, 16, 17, 18, 19, 20, 21, 22, 23, 24, 25, 26] (i := 9) (v := ?_) rfl (by kernel_rfl) (by kernel_rfl) (by kernel_rfl) (by kernel_rfl) (by kernel_rfl) (fun _ _ _ h => h) (Or.inl ⟨by first | kernel_rfl | rfl, ?_⟩) (by assumption) ?_
              rotate_left
              focus
                intro w hSw
                (try dsimp only at hSw)
                go_simp
                try with_reducible rfl
              (try change wpAnyN _ _ _ _ _ _ _ _ (Act.put _ (some 43) _) _)
              try (unfold Act.put; dsimp only)
              refine wpAnyN_take [11, 14, 15, 16, 17, 18, 19, 20, 21, 22, 23, 24, 25, 26] (i := 10) (v := ?_) rfl (by kernel_rfl) (by kernel_rfl) (by kernel_rfl) (by kernel_rfl) (by kernel_rfl) (fun _ _ _ h => h) (Or.inl ⟨by first | kernel_rfl | rfl, ?_⟩) (by assumption) ?_
              rotate_left
              focus
                intro w hSw
                (try dsimp only at hSw)
                go_simp
                try with_reducible rfl
              (try change wpAnyN _ _ _ _ _ _ _ _ (Act.put _ (some 44) _) _)
              try (unfold Act.put; dsimp only)
              refine wpAnyN_take [14, 15, 16, 17, 18, 19, 20, 21, 22, 23, 24, 25, 26] (i := 11) (v := ?_) rfl (by kernel_rfl) (by kernel_rfl) (by kernel_rfl) (by kernel_rfl) (by kernel_rfl) (fun _ _ _ h => h) (Or.inl ⟨by first | kernel_rfl | rfl, ?_⟩) (by assumption) ?_
              rotate_left
              focus
                intro w hSw
                (try dsimp only at hSw)
                go_simp
                try with_reducible rfl
              (try change wpAnyN _ _ _ _ _ _ _ _ (Act.put _ (some 45) _) _)
              try (unfold Act.put; dsimp only)
              refine wpAnyN_take [13, 14, 15, 16, 17, 18, 19, 20, 21, 22, 23, 24, 25, 26] (i := 12) (v := ?_) rfl (by kernel_rfl) (by kernel_rfl) (by kernel_rfl) (by kernel_rfl) (by kernel_rfl) (fun _ _ _ h => h) (Or.inl ⟨by first | kernel_rfl | rfl, ?_⟩) (by assumption) ?_
              rotate_left
              focus
                intro w hSw
                (try dsimp only at hSw)
                go_simp
                try with_reducible rfl
              (try change wpAnyN _ _ _ _ _ _ _ _ (Act.put _ (some 46) _) _)
              try (unfold Act.put; dsimp only)
              refine wpAnyN_take [14, 15, 16, 17, 18, 19, 20, 21, 22, 23, 24, 25, 26] (i := 13) (v := ?_) rfl (by kernel_rfl) (by kernel_rfl) (by kernel_rfl) (by kernel_rfl) (by kernel_rfl) (fun _ _ _ h => h) (Or.inl ⟨by first | kernel_rfl | rfl, ?_⟩) (by assumption) ?_
              rotate_left
              focus
                intro w hSw
                (try dsimp only at hSw)
                go_simp
                try with_reducible rfl
              (try change wpAnyN _ _ _ _ _ _ _ _ (Act.put _ (some 47) _) _)
              try (unfold Act.put; dsimp only)
              refine wpAnyN_take [15, 16, 17, 18, 19, 20, 21, 22, 23, 24, 25, 26] (i := 14) (v := ?_) rfl (by kernel_rfl) (by kernel_rfl) (by kernel_rfl) (by kernel_rfl) (by kernel_rfl) (fun _ _ _ h => h) (Or.inl ⟨by first | kernel_rfl | rfl, ?_⟩) (by assumption) ?_
              rotate_left
              focus
                intro w hSw
                (try dsimp only at hSw)
                go_simp
                try with_reducible rfl
              (try change wpAnyN _ _ _ _ _ _ _ _ (Act.put _ (some 48) _) _)
              try (unfold Act.put; dsimp only)
              refine wpAnyN_take [16, 17, 18, 19, 20, 21, 22, 23, 24, 25, 26] (i := 15) (v := ?_) rfl (by kernel_rfl) (by kernel_rfl) (by kernel_rfl) (by kernel_rfl) (by kernel_rfl) (fun _ _ _ h => h) (Or.inl ⟨by first | kernel_rfl | rfl, ?_⟩) (by assumption) ?_
              rotate_left
              focus
                intro w hSw
                (try dsimp only at hSw)
                go_simp
                try with_reducible rfl
              (try change wpAnyN _ _ _ _ _ _ _ _ (Act.put _ (some 49) _) _)
              try (unfold Act.put; dsimp only)
              refine wpAnyN_take [17, 18, 19, 20, 21, 22, 23, 24, 25, 26] (i := 16) (v := ?_) rfl (by kernel_rfl) (by kernel_rfl) (by kernel_rfl) (by kernel_rfl) (by kernel_rfl) (fun _ _ _ h => h) (Or.inl ⟨by first | kernel_rfl | rfl, ?_⟩) (by assumption) ?_
              rotate_left
              focus
                intro w hSw
                (try dsimp only at hSw)
                go_simp
                try with_reducible rfl
              (try change wpAnyN _ _ _ _ _ _ _ _ (Act.put _ (some 50) _) _)
              try (unfold Act.put; dsimp only)
              refine wpAnyN_take [23, 24, 25, 26] (i := 17) (v := ?_) rfl (by kernel_rfl) (by kernel_rfl) (by kernel_rfl) (by kernel_rfl) (by kernel_rfl) (fun _ _ _ h => h) (Or.inl ⟨by first | kernel_rfl | rfl, ?_⟩) (by assumption) ?_
              rotate_left
              focus
                intro w hSw
                (try dsimp only at hSw)
                go_simp
                try with_reducible rfl
              (try change wpAnyN _ _ _ _ _ _ _ _ (Act.put _ (some 51) _) _)
              try (unfold Act.put; dsimp only)
              refine wpAnyN_take [20, 21, 22, 23, 24, 25, 26] (i := 18) (v := ?_) rfl (by kernel_rfl) (by kernel_rfl) (by kernel_rfl) (by kernel_rfl) (by kernel_rfl) (fun _ _ _ h => h) (Or.inl ⟨by first | kernel_rfl | rfl, ?_⟩) (by assumption) ?_
              rotate_left
              focus
                intro w hSw
                (try dsimp only at hSw)
                go_simp
                try with_reducible rfl
              (try change wpAnyN _ _ _ _ _ _ _ _ (Act.put _ (some 52) _) _)
              try (unfold Act.put; dsimp only)
              refine wpAnyN_take [20, 21, 22, 23, 24, 25, 26] (i := 19) (v := ?_) rfl (by kernel_rfl) (by kernel_rfl) (by kernel_rfl) (by kernel_rfl) (by kernel_rfl) (fun _ _ _ h => h) (Or.inl ⟨by first | kernel_rfl | rfl, ?_⟩) (by assumption) ?_
              rotate_left
              focus
                intro w hSw
                (try dsimp only at hSw)
                go_simp
                try with_reducible rfl
              (try change wpAnyN _ _ _ _ _ _ _ _ (Act.put _ (some 53) _) _)
              try (unfold Act.put; dsimp only)
              refine wpAnyN_take [21, 22, 23, 24, 25, 26] (i := 20) (v := ?_) rfl (by kernel_rfl) (by kernel_rfl) (by kernel_rfl) (by kernel_rfl) (by kernel_rfl) (fun _ _ _ h => h) (Or.inl ⟨by first | kernel_rfl | rfl, ?_⟩) (by assumption) ?_
              rotate_left
              focus
                intro w hSw
                (try dsimp only at hSw)
                go_simp
                try with_reducible rfl
              (try change wpAnyN _ _ _ _ _ _ _ _ (Act.put _ (some 54) _) _)
              try (unfold Act.put; dsimp only)
              refine wpAnyN_take [22, 23, 24, 25, 26] (i := 21) (v := ?_) rfl (by kernel_rfl) (by kernel_rfl) (by kernel_rfl) (by kernel_rfl) (by kernel_rfl) (fun _ _ _ h => h) (Or.inl ⟨by first | kernel_rfl | rfl, ?_⟩) (by assumption) ?_
              rotate_left
              focus
                intro w hSw
                (try dsimp only at hSw)
                go_simp
                try with_reducible rfl
              (try change wpAnyN _ _ _ _ _ _ _ _ (Act.put _ (some 55) _) _)
              try (unfold Act.put; dsimp only)
              refine wpAnyN_take [23, 24, 25, 26] (i := 22) (v := ?_) rfl (by kernel_rfl) (by kernel_rfl) (by kernel_rfl) (by kernel_rfl) (by kernel_rfl) (fun _ _ _ h => h) (Or.inl ⟨by first | kernel_rfl | rfl, ?_⟩) (by assumption) ?_
              rotate_left
              focus
                intro w hSw
                (try dsimp only at hSw)
                go_simp
                try with_reducible rfl
              (try change wpAnyN _ _ _ _ _ _ _ _ (Act.put _ (some 56) _) _)
              try (unfold Act.put; dsimp only)
              refine wpAnyN_ready (rs := [23]) (by kernel_rfl) (by simp) ?_
              refine AllReadyN.cons rfl (fun K hK => ?_) ?_
              · go_simp
                go_at_call 28
                refine (HOW.out _ (show Below wq.heap.size wq _ by first | exact Below.refl _ _ | (go_grown; done))).mono ?_
                rintro e9 w9 ⟨rfl, hb9⟩
                have HB9 := Lib.hid (Below.trans (show Below wq.heap.size wq _ by first | exact Below.refl _ _ | (go_grown; done)) (hb9.mono (by first | exact Nat.le_refl _ | (simp; done))))
                clear hb9
                dsimp only
                refine hK.out _ _ ?_ (fun hHeld => ?_)
                · (try dsimp only)
                  first
                    | (refine ⟨⟨?_, ?_, ?_⟩, ?_⟩ <;> with_reducible assumption)
                    | (refine ⟨⟨cell_keep ?_ z0, cell_keep ?_ z1, cell_keep ?_ z2⟩, cell_keep ?_ zc⟩ <;> first | exact HB9.out | (go_grown; done))
                clear hK K
                (try change wpAnyN _ _ _ _ _ _ _ _ (Act.put _ (some 57) _) _)
                try (unfold Act.put; dsimp only)
                refine wpAnyN_ready (rs := [24]) (by kernel_rfl) (by simp) ?_
                refine AllReadyN.cons rfl (fun K hK => ?_) ?_
                · go_simp
                  refine hK.out _ _ ?_ (fun hHeld => ?_)
                  · (try dsimp only)
                    first
                      | (refine ⟨⟨?_, ?_, ?_⟩, ?_⟩ <;> with_reducible assumption)
                      | (refine ⟨⟨cell_keep ?_ z0, cell_keep ?_ z1, cell_keep ?_ z2⟩, cell_keep ?_ zc⟩ <;> first | exact HB9.out | (go_grown; done))
                  clear hK K
                  (try change wpAnyN _ _ _ _ _ _ _ _ (Act.put _ (some 58) _) _)
                  try (unfold Act.put; dsimp only)
                  refine wpAnyN_take [26] (i := 25) (v := ?_) rfl (by kernel_rfl) (by kernel_rfl) (by kernel_rfl) (by kernel_rfl) (by kernel_rfl) (fun _ _ _ h => h) (Or.inl ⟨by first | kernel_rfl | rfl, ?_⟩) (by assumption) ?_
                  rotate_left
                  focus
                    intro w hSw
                    (try dsimp only at hSw)
                    go_simp
                    try with_reducible rfl
                  (try change wpAnyN _ _ _ _ _ _ _ _ (Act.put _ (some 59) _) _)
                  try (unfold Act.put; dsimp only)
                  refine wpAnyN_take [] (i := 26) (v := ?_) rfl (by kernel_rfl) (by kernel_rfl) (by kernel_rfl) (by kernel_rfl) (by kernel_rfl) (fun _ _ _ h => h) (Or.inl ⟨by first | kernel_rfl | rfl, ?_⟩) (by assumption) ?_
                  rotate_left
                  focus
                    intro w hSw
                    (try dsimp only at hSw)
                    go_simp
                    try with_reducible rfl
                  (try change wpAnyN _ _ _ _ _ _ _ _ (Act.put _ (some 60) _) _)
                  try (unfold Act.put; dsimp only)
                  refine wpAnyN_done (by kernel_rfl) ?_ _
                  go_wp2
                  go_ret
                  exact ⟨by rw [HY.out] <;> rfl, HB1.out.trans ((HBQ.out.trans (HB9.out.mono HBQ.out.size)).mono HB1.out.size)⟩
                exact AllReadyN.nil
              exact AllReadyN.nil
            · have HFR : Hid (freeR es ec (es.getD k Ev.none) = true) := Lib.hid (HFD.out.trans (by simp [h3]))
              go_wp2_with fail
              go_quiet (fail)
              generalize hwq : World.drewN wr nq = wq
              have HBQ : Hid (Below w1.heap.size w1 wq) := Lib.hid (by rw [← hwq]; exact below_drewN HBR.out _)
              have z0 : wq.cell? ⟨ge, oe + k * 7, none⟩ = some (.int .i64 1) := by rw [← hwq]; exact p0
              have z1 : wq.cell? ⟨ge, oe + k * 7 + 1, none⟩ = some (.int .i64 ec) := by rw [← hwq]; exact p1
              have z2 : wq.cell? ⟨ge, oe + k * 7 + 2, none⟩ = some (.int .i64 ex) := by rw [← hwq]; exact p2
              have zc : wq.cell? ⟨w.heap.size, 1, none⟩ = some (.int .i64 ec) := by rw [← hwq]; exact y1
              have HOW := Lib.hid (fun W (hb : Below wq.heap.size wq W) => HOF.out W (HBQ.out.trans (hb.mono HBQ.out.size)))
              have lgq : ge < wq.heap.size := Nat.lt_of_lt_of_le lge (by rw [← hwq]; simp)
              clear hwq p0 p1 p2 p3 p4 p5 p6 y1 lge
              go_wp2_with fail
              refine wp_region_N (S := (fun w' => (w'.cell? ⟨ge, oe + k * 7, none⟩ = some (.int .i64 1) ∧ w'.cell? ⟨ge, oe + k * 7 + 1, none⟩ = some (.int .i64 ec) ∧ w'.cell? ⟨ge, oe + k * 7 + 2, none⟩ = some (.int .i64 ex)) ∧ w'.cell? ⟨w.heap.size, 1, none⟩ = some (.int .i64 ec))) (fun i => true) (by kernel_rfl) ?_ (fun hHeld => ?_)
              · (try dsimp only)
                first
                  | (refine ⟨⟨?_, ?_, ?_⟩, ?_⟩ <;> with_reducible assumption)
                  | (refine ⟨⟨cell_keep ?_ z0, cell_keep ?_ z1, cell_keep ?_ z2⟩, cell_keep ?_ zc⟩ <;> first | exact HB9.out | (go_grown; done))
              refine wpAnyN_take [2, 3, 4, 5, 6, 7, 8, 9, 10, 11, 12, 13, 14, 15, 16, 17, 18, 19, 20, 21, 22, 23, 24, 25, 26] (i := 0) (v := ?_) rfl (by kernel_rfl) (by kernel_rfl) (by kernel_rfl) (by kernel_rfl) (by kernel_rfl) (fun _ _ _ h => h) (Or.inl ⟨by first | kernel_rfl | rfl, ?_⟩) (by assumption) ?_
              rotate_left
              focus
                intro w hSw
                (try dsimp only at hSw)
                go_simp
                try with_reducible rfl
              (try change wpAnyN _ _ _ _ _ _ _ _ (Act.put _ (some 34) _) _)
              try (unfold Act.put; dsimp only)
              refine wpAnyN_take [2, 3, 4, 5, 6, 7, 8, 9, 10, 11, 12, 13, 14, 15, 16, 17, 18, 19, 20, 21, 22, 23, 24, 25, 26] (i := 1) (v := ?_) rfl (by kernel_rfl) (by kernel_rfl) (by kernel_rfl) (by kernel_rfl) (by kernel_rfl) (fun _ _ _ h => h) (Or.inl ⟨by first | kernel_rfl | rfl, ?_⟩) (by assumption) ?_
              rotate_left
              focus
                intro w hSw
                (try dsimp only at hSw)
                go_simp
                try with_reducible rfl
              (try change wpAnyN _ _ _ _ _ _ _ _ (Act.put _ (some 35) _) _)
              try (unfold Act.put; dsimp only)
              refine wpAnyN_take [3, 4, 5, 6, 7, 8, 9, 10, 11, 12, 13, 14, 15, 16, 17, 18, 19, 20, 21, 22, 23, 24, 25, 26] (i := 2) (v := ?_) rfl (by kernel_rfl) (by kernel_rfl) (by kernel_rfl) (by kernel_rfl) (by kernel_rfl) (fun _ _ _ h => h) (Or.inl ⟨by first | kernel_rfl | rfl, ?_⟩) (by assumption) ?_
              rotate_left
              focus
                intro w hSw
                (try dsimp only at hSw)
                go_simp
                try with_reducible rfl
              (try change wpAnyN _ _ _ _ _ _ _ _ (Act.put _ (some 36) _) _)
              try (unfold Act.put; dsimp only)
              refine wpAnyN_take [4, 5, 6, 7, 8, 9, 10, 11, 12, 13, 14, 15, 16, 17, 18, 19, 20, 21, 22, 23, 24, 25, 26] (i := 3) (v := ?_) rfl (by kernel_rfl) (by kernel_rfl) (by kernel_rfl) (by kernel_rfl) (by kernel_rfl) (fun _ _ _ h => h) (Or.inl ⟨by first | kernel_rfl | rfl, ?_⟩) (by assumption) ?_
              rotate_left
              focus
                intro w hSw
                (try dsimp only at hSw)
                go_simp
                try with_reducible rfl
              (try change wpAnyN _ _ _ _ _ _ _ _ (Act.put _ (some 37) _) _)
              try (unfold Act.put; dsimp only)
              refine wpAnyN_take [5, 6, 7, 8, 9, 10, 11, 12, 13, 14, 15, 16, 17, 18, 19, 20, 21, 22, 23, 24, 25, 26] (i := 4) (v := ?_) rfl (by kernel_rfl) (by kernel_rfl) (by kernel_rfl) (by kernel_rfl) (by kernel_rfl) (fun _ _ _ h => h) (Or.inl ⟨by first | kernel_rfl | rfl, ?_⟩) (by assumption) ?_
              rotate_left
              focus
                intro w hSw
                (try dsimp only at hSw)
                go_simp
                try with_reducible rfl
              (try change wpAnyN _ _ _ _ _ _ _ _ (Act.put _ (some 38) _) _)
              try (unfold Act.put; dsimp only)
              refine wpAnyN_take [6, 7, 8, 9, 10, 11, 12, 13, 14, 15, 16, 17, 18, 19, 20, 21, 22, 23, 24, 25, 26] (i := 5) (v := ?_) rfl (by kernel_rfl) (by kernel_rfl) (by kernel_rfl) (by kernel_rfl) (by kernel_rfl) (fun _ _ _ h => h) (Or.inl ⟨by first | kernel_rfl | rfl, ?_⟩) (by assumption) ?_
              rotate_left
              focus
                intro w hSw
                (try dsimp only at hSw)
                go_simp
                try with_reducible rfl
              (try change wpAnyN _ _ _ _ _ _ _ _ (Act.put _ (some 39) _) _)
              try (unfold Act.put; dsimp only)
              refine wpAnyN_take [7, 8, 9, 10, 11, 12, 13, 14, 15, 16, 17, 18, 19, 20, 21, 22, 23, 24, 25, 26] (i := 6) (v := ?_) rfl (by kernel_rfl) (by kernel_rfl) (by kernel_rfl) (by kernel_rfl) (by kernel_rfl) (fun _ _ _ h => h) (Or.inl ⟨by first | kernel_rfl | rfl, ?_⟩) (by assumption) ?_
              rotate_left
              focus
                intro w hSw
                (try dsimp only at hSw)
                go_simp
                try with_reducible rfl
              (try change wpAnyN _ _ _ _ _ _ _ _ (Act.put _ (some 40) _) _)
              try (unfold Act.put; dsimp only)
              refine wpAnyN_take [9, 10, 11, 14, 15, 16, 17, 18, 19, 20, 21, 22, 23, 24, 25, 26] (i := 7) (v := ?_) rfl (by kernel_rfl) (by kernel_rfl) (by kernel_rfl) (by kernel_rfl) (by kernel_rfl) (fun _ _ _ h => h) (Or.inl ⟨by first | kernel_rfl | rfl, ?_⟩) (by assumption) ?_
              rotate_left
              focus
                intro w hSw
                (try dsimp only at hSw)
                go_simp
                try with_reducible rfl
              (try change wpAnyN _ _ _ _ _ _ _ _ (Act.put _ (some 41) _) _)
              try (unfold Act.put; dsimp only)
              refine wpAnyN_take [9, 10, 11, 14, 15, 16, 17, 18, 19, 20, 21, 22, 23, 24, 25, 26] (i := 8) (v := ?_) rfl (by kernel_rfl) (by kernel_rfl) (by kernel_rfl) (by kernel_rfl) (by kernel_rfl) (fun _ _ _ h => h) (Or.inl ⟨by first | kernel_rfl | rfl, ?_⟩) (by assumption) ?_
              rotate_left
              focus
                intro w hSw
                (try dsimp only at hSw)
                go_simp
                try with_reducible rfl
              (try change wpAnyN _ _ _ _ _ _ _ _ (Act.put _ (some 42) _) _)
              try (unfold Act.put; dsimp only)
              refine wpAnyN_take [10, 11, 14, 15, 16, 17, 18, 19, 20, 21, 22, 23, 24, 25, 26] (i := 9) (v := ?_) rfl (by kernel_rfl) (by kernel_rfl) (by kernel_rfl) (by kernel_rfl) (by kernel_rfl) (fun _ _ _ h => h) (Or.inl ⟨by first | kernel_rfl | rfl, ?_⟩) (by assumption) ?_
              rotate_left
              focus
                intro w hSw
                (try dsimp only at hSw)
                go_simp
                try with_reducible rfl
              (try change wpAnyN _ _ _ _ _ _ _ _ (Act.put _ (some 43) _) _)
              try (unfold Act.put; dsimp only)
              refine wpAnyN_take [11, 14, 15, 16, 17, 18, 19, 20, 21, 22, 23, 24, 25, 26] (i := 10) (v := ?_) rfl (by kernel_rfl) (by kernel_rfl) (by kernel_rfl) (by kernel_rfl) (by kernel_rfl) (fun _ _ _ h => h) (Or.inl ⟨by first | kernel_rfl | rfl, ?_⟩) (by assumption) ?_
              rotate_left
              focus
                intro w hSw
                (try dsimp only at hSw)
                go_simp
                try with_reducible rfl
              (try change wpAnyN _ _ _ _ _ _ _ _ (Act.put _ (some 44) _) _)
              try (unfold Act.put; dsimp only)
              refine wpAnyN_take [14, 15, 16, 17, 18, 19, 20, 21, 22, 23, 24, 25, 26] (i := 11) (v := ?_) rfl (by kernel_rfl) (by kernel_rfl) (by kernel_rfl) (by kernel_rfl) (by kernel_rfl) (fun _ _ _ h => h) (Or.inl ⟨by first | kernel_rfl | rfl, ?_⟩) (by assumption) ?_
              rotate_left
              focus
                intro w hSw
                (try dsimp only at hSw)
                go_simp
                try with_reducible rfl
              (try change wpAnyN _ _ _ _ _ _ _ _ (Act.put _ (some 45) _) _)
              try (unfold Act.put; dsimp only)
              refine wpAnyN_take [13, 14, 15, 16, 17, 18, 19, 20, 21, 22, 23, 24, 25, 26] (i := 12) (v := ?_) rfl (by kernel_rfl) (by kernel_rfl) (by kernel_rfl) (by kernel_rfl) (by kernel_rfl) (fun _ _ _ h => h) (Or.inl ⟨by first | kernel_rfl | rfl, ?_⟩) (by assumption) ?_
              rotate_left
              focus
                intro w hSw
                (try dsimp only at hSw)
                go_simp
                try with_reducible rfl
              (try change wpAnyN _ _ _ _ _ _ _ _ (Act.put _ (some 46) _) _)
              try (unfold Act.put; dsimp only)
              refine wpAnyN_take [14, 15, 16, 17, 18, 19, 20, 21, 22, 23, 24, 25, 26] (i := 13) (v := ?_) rfl (by kernel_rfl) (by kernel_rfl) (by kernel_rfl) (by kernel_rfl) (by kernel_rfl) (fun _ _ _ h => h) (Or.inl ⟨by first | kernel_rfl | rfl, ?_⟩) (by assumption) ?_
              rotate_left
              focus
                intro w hSw
                (try dsimp only at hSw)
                go_simp
                try with_reducible rfl
              (try change wpAnyN _ _ _ _ _ _ _ _ (Act.put _ (some 47) _) _)
              try (unfold Act.put; dsimp only)
              refine wpAnyN_take [15, 16, 17, 18, 19, 20, 21, 22, 23, 24, 25, 26] (i := 14) (v := ?_) rfl (by kernel_rfl) (by kernel_rfl) (by kernel_rfl) (by kernel_rfl) (by kernel_rfl) (fun _ _ _ h => h) (Or.inl ⟨by first | kernel_rfl | rfl, ?_⟩) (by assumption) ?_
              rotate_left
              focus
                intro w hSw
                (try dsimp only at hSw)
                go_simp
                try with_reducible rfl
              (try change wpAnyN _ _ _ _ _ _ _ _ (Act.put _ (some 48) _) _)
              try (unfold Act.put; dsimp only)
              refine wpAnyN_take [16, 17, 18, 19, 20, 21, 22, 23, 24, 25, 26] (i := 15) (v := ?_) rfl (by kernel_rfl) (by kernel_rfl) (by kernel_rfl) (by kernel_rfl) (by kernel_rfl) (fun _ _ _ h => h) (Or.inl ⟨by first | kernel_rfl | rfl, ?_⟩) (by assumption) ?_
              rotate_left
              focus
                intro w hSw
                (try dsimp only at hSw)
                go_simp
                try with_reducible rfl
              (try change wpAnyN _ _ _ _ _ _ _ _ (Act.put _ (some 49) _) _)
              try (unfold Act.put; dsimp only)
              refine wpAnyN_take [17, 18, 19, 20, 21, 22, 23, 24, 25, 26] (i := 16) (v := ?_) rfl (by kernel_rfl) (by kernel_rfl) (by kernel_rfl) (by kernel_rfl) (by kernel_rfl) (fun _ _ _ h => h) (Or.inl ⟨by first | kernel_rfl | rfl, ?_⟩) (by assumption) ?_
              rotate_left
              focus
                intro w hSw
                (try dsimp only at hSw)
                go_simp
                try with_reducible rfl
              (try change wpAnyN _ _ _ _ _ _ _ _ (Act.put _ (some 50) _) _)
              try (unfold Act.put; dsimp only)
              refine wpAnyN_take [23, 24, 25, 26] (i := 17) (v := ?_) rfl (by kernel_rfl) (by kernel_rfl) (by kernel_rfl) (by kernel_rfl) (by kernel_rfl) (fun _ _ _ h => h) (Or.inl ⟨by first | kernel_rfl | rfl, ?_⟩) (by assumption) ?_
              rotate_left
              focus
                intro w hSw
                (try dsimp only at hSw)
                go_simp
                try with_reducible rfl
              (try change wpAnyN _ _ _ _ _ _ _ _ (Act.put _ (some 51) _) _)
              try (unfold Act.put; dsimp only)
              refine wpAnyN_take [20, 21, 22, 23, 24, 25, 26] (i := 18) (v := ?_) rfl (by kernel_rfl) (by kernel_rfl) (by kernel_rfl) (by kernel_rfl) (by kernel_rfl) (fun _ _ _ h => h) (Or.inl ⟨by first | kernel_rfl | rfl, ?_⟩) (by assumption) ?_
              rotate_left
              focus
                intro w hSw
                (try dsimp only at hSw)
                go_simp
                try with_reducible rfl
              (try change wpAnyN _ _ _ _ _ _ _ _ (Act.put _ (some 52) _) _)
              try (unfold Act.put; dsimp only)
              refine wpAnyN_take [20, 21, 22, 23, 24, 25, 26] (i := 19) (v := ?_) rfl (by kernel_rfl) (by kernel_rfl) (by kernel_rfl) (by kernel_rfl) (by kernel_rfl) (fun _ _ _ h => h) (Or.inl ⟨by first | kernel_rfl | rfl, ?_⟩) (by assumption) ?_
              rotate_left
              focus
                intro w hSw
                (try dsimp only at hSw)
                go_simp
                try with_reducible rfl
              (try change wpAnyN _ _ _ _ _ _ _ _ (Act.put _ (some 53) _) _)
              try (unfold Act.put; dsimp only)
              refine wpAnyN_take [21, 22, 23, 24, 25, 26] (i := 20) (v := ?_) rfl (by kernel_rfl) (by kernel_rfl) (by kernel_rfl) (by kernel_rfl) (by kernel_rfl) (fun _ _ _ h => h) (Or.inl ⟨by first | kernel_rfl | rfl, ?_⟩) (by assumption) ?_
              rotate_left
              focus
                intro w hSw
                (try dsimp only at hSw)
                go_simp
                try with_reducible rfl
              (try change wpAnyN _ _ _ _ _ _ _ _ (Act.put _ (some 54) _) _)
              try (unfold Act.put; dsimp only)
              refine wpAnyN_take [22, 23, 24, 25, 26] (i := 21) (v := ?_) rfl (by kernel_rfl) (by kernel_rfl) (by kernel_rfl) (by kernel_rfl) (by kernel_rfl) (fun _ _ _ h => h) (Or.inl ⟨by first | kernel_rfl | rfl, ?_⟩) (by assumption) ?_
              rotate_left
              focus
                intro w hSw
                (try dsimp only at hSw)
                go_simp
                try with_reducible rfl
              (try change wpAnyN _ _ _ _ _ _ _ _ (Act.put _ (some 55) _) _)
              try (unfold Act.put; dsimp only)
              refine wpAnyN_take [23, 24, 25, 26] (i := 22) (v := ?_) rfl (by kernel_rfl) (by kernel_rfl) (by kernel_rfl) (by kernel_rfl) (by kernel_rfl) (fun _ _ _ h => h) (Or.inl ⟨by first | kernel_rfl | rfl, ?_⟩) (by assumption) ?_
              rotate_left
              focus
                intro w hSw
                (try dsimp only at hSw)
                go_simp
                try with_reducible rfl
              (try change wpAnyN _ _ _ _ _ _ _ _ (Act.put _ (some 56) _) _)
              try (unfold Act.put; dsimp only)
              refine wpAnyN_ready (rs := [23]) (by kernel_rfl) (by simp) ?_
              refine AllReadyN.cons rfl (fun K hK => ?_) ?_
              · go_simp
                go_at_call 28
                refine (HOW.out _ (show Below wq.heap.size wq _ by first | exact Below.refl _ _ | (go_grown; done))).mono ?_
                rintro e9 w9 ⟨rfl, hb9⟩
                have HB9 := Lib.hid (Below.trans (show Below wq.heap.size wq _ by first | exact Below.refl _ _ | (go_grown; done)) (hb9.mono (by first | exact Nat.le_refl _ | (simp; done))))
                clear hb9
                dsimp only
                refine hK.out _ _ ?_ (fun hHeld => ?_)
                · (try dsimp only)
                  first
                    | (refine ⟨⟨?_, ?_, ?_⟩, ?_⟩ <;> with_reducible assumption)
                    | (refine ⟨⟨cell_keep ?_ z0, cell_keep ?_ z1, cell_keep ?_ z2⟩, cell_keep ?_ zc⟩ <;> first | exact HB9.out | (go_grown; done))
                clear hK K
                (try change wpAnyN _ _ _ _ _ _ _ _ (Act.put _ (some 57) _) _)
                try (unfold Act.put; dsimp only)
                refine wpAnyN_ready (rs := [24]) (by kernel_rfl) (by simp) ?_
                refine AllReadyN.cons rfl (fun K hK => ?_) ?_
                · go_simp
                  refine hK.out _ _ ?_ (fun hHeld => ?_)
                  · (try dsimp only)
                    first
                      | (refine ⟨⟨?_, ?_, ?_⟩, ?_⟩ <;> with_reducible assumption)
                      | (refine ⟨⟨cell_keep ?_ z0, cell_keep ?_ z1, cell_keep ?_ z2⟩, cell_keep ?_ zc⟩ <;> first | exact HB9.out | (go_grown; done))
                  clear hK K
                  (try change wpAnyN _ _ _ _ _ _ _ _ (Act.put _ (some 58) _) _)
                  try (unfold Act.put; dsimp only)
                  refine wpAnyN_take [26] (i := 25) (v := ?_) rfl (by kernel_rfl) (by kernel_rfl) (by kernel_rfl) (by kernel_rfl) (by kernel_rfl) (fun _ _ _ h => h) (Or.inl ⟨by first | kernel_rfl | rfl, ?_⟩) (by assumption) ?_
                  rotate_left
                  focus
                    intro w hSw
                    (try dsimp only at hSw)
                    go_simp
                    try with_reducible rfl
                  (try change wpAnyN _ _ _ _ _ _ _ _ (Act.put _ (some 59) _) _)
                  try (unfold Act.put; dsimp only)
                  refine wpAnyN_take [] (i := 26) (v := ?_) rfl (by kernel_rfl) (by kernel_rfl) (by kernel_rfl) (by kernel_rfl) (by kernel_rfl) (fun _ _ _ h => h) (Or.inl ⟨by first | kernel_rfl | rfl, ?_⟩) (by assumption) ?_
                  rotate_left
                  focus
                    intro w hSw
                    (try dsimp only at hSw)
                    go_simp
                    try with_reducible rfl
                  (try change wpAnyN _ _ _ _ _ _ _ _ (Act.put _ (some 60) _) _)
                  try (unfold Act.put; dsimp only)
                  refine wpAnyN_done (by kernel_rfl) ?_ _
                  go_wp2
                  go_roundw
                  case rel => exact ⟨k + 1, by omega, by go_num, (HBQ.out.trans (HB9.out.mono HBQ.out.size)), fun q hq => by
                    rcases Nat.lt_or_ge q k with h1 | h1
                    · exact HNO.out q h1
                    · rw [show q = k by omega]; exact HFR.out⟩
                  case measure => simp [intOf]; omega
                exact AllReadyN.nil
              exact AllReadyN.nil
          · have h9b : (ec == a1) = false := by simpa using h9
            have HFR : Hid (freeR es a1 (es.getD k Ev.none) = true) := Lib.hid (HFD.out.trans (by simp [h9]))
            clear h9
            go_wp2_with fail
            go_quiet (fail)
            go_wp2_with fail
            go_quiet (fail)
            go_wp2
            go_roundw
            case rel => exact ⟨k + 1, by omega, by go_num, (below_drewN HBR.out _), fun q hq => by
              rcases Nat.lt_or_ge q k with h1 | h1
              · exact HNO.out q h1
              · rw [show q = k by omega]; exact HFR.out⟩
            case measure => simp [intOf]; omega
        · have h1b : (ek == 1) = false := by simpa using h1
          have HFR : Hid (freeR es a1 (es.getD k Ev.none) = true) := Lib.hid (HFD.out.trans (by simp [h1, h8]))
          clear h1 h8
          go_wp2_with fail
          go_quiet (fail)
          go_wp2_with fail
          go_quiet (fail)
          go_wp2
          go_roundw
          case rel => exact ⟨k + 1, by omega, by go_num, (below_drewN HBR.out _), fun q hq => by
            rcases Nat.lt_or_ge q k with h1 | h1
            · exact HNO.out q h1
            · rw [show q = k by omega]; exact HFR.out⟩
          case measure => simp [intOf]; omega
    · have hkn : k = n := by omega
      subst hkn
      have hge : ¬ (k : Int) < k := by omega
      have HY := Lib.hid (HALL.out (fun q hq => HNO.out q (by rw [← HL.out]; exact hq)))
      go_wp2
      go_ret
      exact ⟨by rw [HY.out] <;> rfl, HB1.out.trans (HBR.out.mono HB1.out.size)⟩
end Go.Proofs.YtggkohkngockoaaDoor

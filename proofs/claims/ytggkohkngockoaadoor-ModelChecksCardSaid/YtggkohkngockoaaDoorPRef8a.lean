/-
  catchboltref20.Next, kind by kind. No conditions.
-/
import Derived.Test.YtggkohkngockoaaDoorPRef7
namespace Go.Proofs.YtggkohkngockoaaDoor
open Go.ChangeShapes Go.WideShapes Go.ChangeAt Go.RowKit Go.Maps
set_option linter.unusedVariables false
set_option linter.unusedSimpArgs false

set_option maxRecDepth 100000 in
set_option maxHeartbeats 8000000 in
theorem rnext_2 (A : Option Addr) (n cp : Nat) (es : List Ev) (e : Ev) (w : World) (hr : RdE w A es) (hl : es.length = n) (hn : n ≤ 1000) (hf : formB e = true) (hk : e.kind = 2) :
    Calls Tryd.prog 19 #[.slice A n cp, .agg (evC e)] w fun r w' => r = .returned (.int .i64 (nextR es e)) ∧ Below w.heap.size w w' := by
  have HN := Lib.hid (rn_2 (l := es) hf hk)
  obtain ⟨a0, a1, a2, a3, a4, a5, a6⟩ := e
  dsimp only at hk
  subst hk
  unfold evC
  try dsimp only
  obtain ⟨w1, hw1⟩ : ∃ W, w.alloc (.cells #[.int .i64 2, .int .i64 a1, .int .i64 a2, .int .i64 a3, .int .i64 a4, .int .i64 a5, .int .i64 a6] 43) = W := ⟨_, rfl⟩
  have hb1 : Below w.heap.size w w1 := by rw [← hw1]; go_grown
  have hs1 : w1.heap.size = w.heap.size + 1 := by rw [← hw1]; simp
  have e1 : w1.heap[w.heap.size]? = some (.cells #[.int .i64 2, .int .i64 a1, .int .i64 a2, .int .i64 a3, .int .i64 a4, .int .i64 a5, .int .i64 a6] 43 (0, 0)) := by rw [← hw1, heap_push, if_pos rfl]
  have HR := Lib.hid hr
  have HL := Lib.hid hl
  have HW1 := Lib.hid hw1
  have HB1 := Lib.hid hb1
  have HS1 := Lib.hid hs1
  have v0 := heap_cell e1 (j := 0) (u := .int .i64 2) rfl
  have v1 := heap_cell e1 (j := 1) (u := .int .i64 a1) rfl
  have v2 := heap_cell e1 (j := 2) (u := .int .i64 a2) rfl
  have v3 := heap_cell e1 (j := 3) (u := .int .i64 a3) rfl
  have v4 := heap_cell e1 (j := 4) (u := .int .i64 a4) rfl
  have v5 := heap_cell e1 (j := 5) (u := .int .i64 a5) rfl
  have v6 := heap_cell e1 (j := 6) (u := .int .i64 a6) rfl
  clear hr hl hw1 hb1 hs1 e1
  have HF := Lib.hid (fun W => rform_any ⟨2, a1, a2, a3, a4, a5, a6⟩ W)
  unfold evC at HF
  try dsimp only at HF
  go_enter Tryd.func19, Tryd.ntmps19
  go_wp2_with fail
  rw [HW1.out]
  refine (HF.out _).mono ?_
  rintro r2 w2 ⟨rfl, hb2⟩
  have HB2 := Lib.hid (HB1.out.trans (hb2.mono HB1.out.size))
  have z0 := cell_keep hb2 v0
  have z1 := cell_keep hb2 v1
  have z2 := cell_keep hb2 v2
  have z3 := cell_keep hb2 v3
  have z4 := cell_keep hb2 v4
  have z5 := cell_keep hb2 v5
  have z6 := cell_keep hb2 v6
  have HG2 := Lib.hid (show w.heap.size < w2.heap.size from Nat.lt_of_lt_of_le (by rw [HS1.out]; omega) hb2.size)
  clear hb2 v0 v1 v2 v3 v4 v5 v6 HF HW1
  rw [hf]
  clear hf
  dsimp only
  obtain ⟨⟨s0, s1, s2, s3, s4, s5⟩, hx⟩ : ∃ x, ofR es a2 = x := ⟨_, rfl⟩
  have HO := Lib.hid (of_any A n cp es a2 w2 (HR.out.below HB2.out (Nat.le_refl _)) HL.out hn)
  try dsimp only at HN
  rw [hx] at HO
  try rw [hx] at HN
  unfold ofC at HO
  try dsimp only at HO
  try dsimp only at HN
  clear hx
  go_wp2_with fail
  refine HO.out.mono ?_
  rintro r3 w3 ⟨rfl, hb3⟩
  have HB3 := Lib.hid (HB2.out.trans (hb3.mono HB2.out.size))
  have HL3 := Lib.hid hb3
  clear hb3
  dsimp only
  by_cases h1 : s0 = 1
  · subst h1
    by_cases h4 : s4 = 0
    · subst h4
      have HX := Lib.hid (HN.out.trans (if_pos ⟨rfl, rfl⟩))
      have HL4 : Hid (Below w2.heap.size w2 (w3.alloc (.cells #[.int .i64 1, .int .i64 s1, .int .i64 s2, .int .i64 s3, .int .i64 0, .bool s5] 77))) := Lib.hid (HL3.out.trans (Below.mono (show Below w3.heap.size w3 _ by go_grown) HL3.out.size))
      have HB4 := Lib.hid (HB2.out.trans (HL4.out.mono HB2.out.size))
      have y0 := cell_keep HL4.out z0
      have y1 := cell_keep HL4.out z1
      have y2 := cell_keep HL4.out z2
      have y3 := cell_keep HL4.out z3
      have y4 := cell_keep HL4.out z4
      have y5 := cell_keep HL4.out z5
      have y6 := cell_keep HL4.out z6
      clear z0 z1 z2 z3 z4 z5 z6
      go_wp2
      go_ret
      exact ⟨by rw [HX.out] <;> rfl, HB4.out⟩
    · have h4b : (s4 == 0) = false := by simpa using h4
      have HX := Lib.hid (HN.out.trans (if_neg (fun q => h4 q.2)))
      clear h4
      have HL4 : Hid (Below w2.heap.size w2 (w3.alloc (.cells #[.int .i64 1, .int .i64 s1, .int .i64 s2, .int .i64 s3, .int .i64 s4, .bool s5] 77))) := Lib.hid (HL3.out.trans (Below.mono (show Below w3.heap.size w3 _ by go_grown) HL3.out.size))
      have HB4 := Lib.hid (HB2.out.trans (HL4.out.mono HB2.out.size))
      have y0 := cell_keep HL4.out z0
      have y1 := cell_keep HL4.out z1
      have y2 := cell_keep HL4.out z2
      have y3 := cell_keep HL4.out z3
      have y4 := cell_keep HL4.out z4
      have y5 := cell_keep HL4.out z5
      have y6 := cell_keep HL4.out z6
      clear z0 z1 z2 z3 z4 z5 z6
      go_wp2
      go_ret
      exact ⟨by rw [HX.out] <;> rfl, HB4.out⟩
  · have h1b : (s0 == 1) = false := by simpa using h1
    have HX := Lib.hid (HN.out.trans (if_neg (fun q => h1 q.1)))
    clear h1
    have HL4 : Hid (Below w2.heap.size w2 (w3.alloc (.cells #[.int .i64 s0, .int .i64 s1, .int .i64 s2, .int .i64 s3, .int .i64 s4, .bool s5] 77))) := Lib.hid (HL3.out.trans (Below.mono (show Below w3.heap.size w3 _ by go_grown) HL3.out.size))
    have HB4 := Lib.hid (HB2.out.trans (HL4.out.mono HB2.out.size))
    have y0 := cell_keep HL4.out z0
    have y1 := cell_keep HL4.out z1
    have y2 := cell_keep HL4.out z2
    have y3 := cell_keep HL4.out z3
    have y4 := cell_keep HL4.out z4
    have y5 := cell_keep HL4.out z5
    have y6 := cell_keep HL4.out z6
    clear z0 z1 z2 z3 z4 z5 z6
    go_wp2
    go_ret
    exact ⟨by rw [HX.out] <;> rfl, HB4.out⟩
set_option maxRecDepth 100000 in
set_option maxHeartbeats 8000000 in
theorem rnext_7 (A : Option Addr) (n cp : Nat) (es : List Ev) (e : Ev) (w : World) (hr : RdE w A es) (hl : es.length = n) (hn : n ≤ 1000) (hf : formB e = true) (hk : e.kind = 7) :
    Calls Tryd.prog 19 #[.slice A n cp, .agg (evC e)] w fun r w' => r = .returned (.int .i64 (nextR es e)) ∧ Below w.heap.size w w' := by
  have HN := Lib.hid (rn_7 (l := es) hf hk)
  obtain ⟨a0, a1, a2, a3, a4, a5, a6⟩ := e
  dsimp only at hk
  subst hk
  unfold evC
  try dsimp only
  obtain ⟨w1, hw1⟩ : ∃ W, w.alloc (.cells #[.int .i64 7, .int .i64 a1, .int .i64 a2, .int .i64 a3, .int .i64 a4, .int .i64 a5, .int .i64 a6] 43) = W := ⟨_, rfl⟩
  have hb1 : Below w.heap.size w w1 := by rw [← hw1]; go_grown
  have hs1 : w1.heap.size = w.heap.size + 1 := by rw [← hw1]; simp
  have e1 : w1.heap[w.heap.size]? = some (.cells #[.int .i64 7, .int .i64 a1, .int .i64 a2, .int .i64 a3, .int .i64 a4, .int .i64 a5, .int .i64 a6] 43 (0, 0)) := by rw [← hw1, heap_push, if_pos rfl]
  have HR := Lib.hid hr
  have HL := Lib.hid hl
  have HW1 := Lib.hid hw1
  have HB1 := Lib.hid hb1
  have HS1 := Lib.hid hs1
  have v0 := heap_cell e1 (j := 0) (u := .int .i64 7) rfl
  have v1 := heap_cell e1 (j := 1) (u := .int .i64 a1) rfl
  have v2 := heap_cell e1 (j := 2) (u := .int .i64 a2) rfl
  have v3 := heap_cell e1 (j := 3) (u := .int .i64 a3) rfl
  have v4 := heap_cell e1 (j := 4) (u := .int .i64 a4) rfl
  have v5 := heap_cell e1 (j := 5) (u := .int .i64 a5) rfl
  have v6 := heap_cell e1 (j := 6) (u := .int .i64 a6) rfl
  clear hr hl hw1 hb1 hs1 e1
  have HF := Lib.hid (fun W => rform_any ⟨7, a1, a2, a3, a4, a5, a6⟩ W)
  unfold evC at HF
  try dsimp only at HF
  go_enter Tryd.func19, Tryd.ntmps19
  go_wp2_with fail
  rw [HW1.out]
  refine (HF.out _).mono ?_
  rintro r2 w2 ⟨rfl, hb2⟩
  have HB2 := Lib.hid (HB1.out.trans (hb2.mono HB1.out.size))
  have z0 := cell_keep hb2 v0
  have z1 := cell_keep hb2 v1
  have z2 := cell_keep hb2 v2
  have z3 := cell_keep hb2 v3
  have z4 := cell_keep hb2 v4
  have z5 := cell_keep hb2 v5
  have z6 := cell_keep hb2 v6
  have HG2 := Lib.hid (show w.heap.size < w2.heap.size from Nat.lt_of_lt_of_le (by rw [HS1.out]; omega) hb2.size)
  clear hb2 v0 v1 v2 v3 v4 v5 v6 HF HW1
  rw [hf]
  clear hf
  dsimp only
  obtain ⟨⟨s0, s1, s2, s3, s4, s5⟩, hx⟩ : ∃ x, ofR es a2 = x := ⟨_, rfl⟩
  have HO := Lib.hid (of_any A n cp es a2 w2 (HR.out.below HB2.out (Nat.le_refl _)) HL.out hn)
  try dsimp only at HN
  rw [hx] at HO
  try rw [hx] at HN
  unfold ofC at HO
  try dsimp only at HO
  try dsimp only at HN
  clear hx
  go_wp2_with fail
  refine HO.out.mono ?_
  rintro r3 w3 ⟨rfl, hb3⟩
  have HB3 := Lib.hid (HB2.out.trans (hb3.mono HB2.out.size))
  have HL3 := Lib.hid hb3
  clear hb3
  dsimp only
  by_cases h1 : s0 = 1
  · subst h1
    have HX := Lib.hid (HN.out.trans (if_pos (Or.inl rfl)))
    have HL4 : Hid (Below w2.heap.size w2 (w3.alloc (.cells #[.int .i64 1, .int .i64 s1, .int .i64 s2, .int .i64 s3, .int .i64 s4, .bool s5] 77))) := Lib.hid (HL3.out.trans (Below.mono (show Below w3.heap.size w3 _ by go_grown) HL3.out.size))
    have HB4 := Lib.hid (HB2.out.trans (HL4.out.mono HB2.out.size))
    have y0 := cell_keep HL4.out z0
    have y1 := cell_keep HL4.out z1
    have y2 := cell_keep HL4.out z2
    have y3 := cell_keep HL4.out z3
    have y4 := cell_keep HL4.out z4
    have y5 := cell_keep HL4.out z5
    have y6 := cell_keep HL4.out z6
    clear z0 z1 z2 z3 z4 z5 z6
    go_wp2
    go_ret
    exact ⟨by rw [HX.out] <;> rfl, HB4.out⟩
  · have h1b : (s0 == 1) = false := by simpa using h1
    by_cases h2 : s0 = 2
    · subst h2
      have HX := Lib.hid (HN.out.trans (if_pos (Or.inr rfl)))
      clear h1
      have HL4 : Hid (Below w2.heap.size w2 (w3.alloc (.cells #[.int .i64 2, .int .i64 s1, .int .i64 s2, .int .i64 s3, .int .i64 s4, .bool s5] 77))) := Lib.hid (HL3.out.trans (Below.mono (show Below w3.heap.size w3 _ by go_grown) HL3.out.size))
      have HB4 := Lib.hid (HB2.out.trans (HL4.out.mono HB2.out.size))
      have y0 := cell_keep HL4.out z0
      have y1 := cell_keep HL4.out z1
      have y2 := cell_keep HL4.out z2
      have y3 := cell_keep HL4.out z3
      have y4 := cell_keep HL4.out z4
      have y5 := cell_keep HL4.out z5
      have y6 := cell_keep HL4.out z6
      clear z0 z1 z2 z3 z4 z5 z6
      go_wp2
      go_ret
      exact ⟨by rw [HX.out] <;> rfl, HB4.out⟩
    · have h2b : (s0 == 2) = false := by simpa using h2
      have HX := Lib.hid (HN.out.trans (if_neg (fun q => q.elim h1 h2)))
      clear h1 h2
      have HL4 : Hid (Below w2.heap.size w2 (w3.alloc (.cells #[.int .i64 s0, .int .i64 s1, .int .i64 s2, .int .i64 s3, .int .i64 s4, .bool s5] 77))) := Lib.hid (HL3.out.trans (Below.mono (show Below w3.heap.size w3 _ by go_grown) HL3.out.size))
      have HB4 := Lib.hid (HB2.out.trans (HL4.out.mono HB2.out.size))
      have y0 := cell_keep HL4.out z0
      have y1 := cell_keep HL4.out z1
      have y2 := cell_keep HL4.out z2
      have y3 := cell_keep HL4.out z3
      have y4 := cell_keep HL4.out z4
      have y5 := cell_keep HL4.out z5
      have y6 := cell_keep HL4.out z6
      clear z0 z1 z2 z3 z4 z5 z6
      go_wp2
      go_ret
      exact ⟨by rw [HX.out] <;> rfl, HB4.out⟩
set_option maxRecDepth 100000 in
set_option maxHeartbeats 8000000 in
theorem rnext_5 (A : Option Addr) (n cp : Nat) (es : List Ev) (e : Ev) (w : World) (hr : RdE w A es) (hl : es.length = n) (hn : n ≤ 1000) (hf : formB e = true) (hk : e.kind = 5) :
    Calls Tryd.prog 19 #[.slice A n cp, .agg (evC e)] w fun r w' => r = .returned (.int .i64 (nextR es e)) ∧ Below w.heap.size w w' := by
  have HN := Lib.hid (rn_5 (l := es) hf hk)
  obtain ⟨a0, a1, a2, a3, a4, a5, a6⟩ := e
  dsimp only at hk
  subst hk
  unfold evC
  try dsimp only
  obtain ⟨w1, hw1⟩ : ∃ W, w.alloc (.cells #[.int .i64 5, .int .i64 a1, .int .i64 a2, .int .i64 a3, .int .i64 a4, .int .i64 a5, .int .i64 a6] 43) = W := ⟨_, rfl⟩
  have hb1 : Below w.heap.size w w1 := by rw [← hw1]; go_grown
  have hs1 : w1.heap.size = w.heap.size + 1 := by rw [← hw1]; simp
  have e1 : w1.heap[w.heap.size]? = some (.cells #[.int .i64 5, .int .i64 a1, .int .i64 a2, .int .i64 a3, .int .i64 a4, .int .i64 a5, .int .i64 a6] 43 (0, 0)) := by rw [← hw1, heap_push, if_pos rfl]
  have HR := Lib.hid hr
  have HL := Lib.hid hl
  have HW1 := Lib.hid hw1
  have HB1 := Lib.hid hb1
  have HS1 := Lib.hid hs1
  have v0 := heap_cell e1 (j := 0) (u := .int .i64 5) rfl
  have v1 := heap_cell e1 (j := 1) (u := .int .i64 a1) rfl
  have v2 := heap_cell e1 (j := 2) (u := .int .i64 a2) rfl
  have v3 := heap_cell e1 (j := 3) (u := .int .i64 a3) rfl
  have v4 := heap_cell e1 (j := 4) (u := .int .i64 a4) rfl
  have v5 := heap_cell e1 (j := 5) (u := .int .i64 a5) rfl
  have v6 := heap_cell e1 (j := 6) (u := .int .i64 a6) rfl
  clear hr hl hw1 hb1 hs1 e1
  have HF := Lib.hid (fun W => rform_any ⟨5, a1, a2, a3, a4, a5, a6⟩ W)
  unfold evC at HF
  try dsimp only at HF
  go_enter Tryd.func19, Tryd.ntmps19
  go_wp2_with fail
  rw [HW1.out]
  refine (HF.out _).mono ?_
  rintro r2 w2 ⟨rfl, hb2⟩
  have HB2 := Lib.hid (HB1.out.trans (hb2.mono HB1.out.size))
  have z0 := cell_keep hb2 v0
  have z1 := cell_keep hb2 v1
  have z2 := cell_keep hb2 v2
  have z3 := cell_keep hb2 v3
  have z4 := cell_keep hb2 v4
  have z5 := cell_keep hb2 v5
  have z6 := cell_keep hb2 v6
  have HG2 := Lib.hid (show w.heap.size < w2.heap.size from Nat.lt_of_lt_of_le (by rw [HS1.out]; omega) hb2.size)
  clear hb2 v0 v1 v2 v3 v4 v5 v6 HF HW1
  rw [hf]
  clear hf
  dsimp only
  obtain ⟨⟨s0, s1, s2, s3, s4, s5⟩, hx⟩ : ∃ x, ofR es a2 = x := ⟨_, rfl⟩
  have HO := Lib.hid (of_any A n cp es a2 w2 (HR.out.below HB2.out (Nat.le_refl _)) HL.out hn)
  try dsimp only at HN
  rw [hx] at HO
  try rw [hx] at HN
  unfold ofC at HO
  try dsimp only at HO
  try dsimp only at HN
  clear hx
  go_wp2_with fail
  refine HO.out.mono ?_
  rintro r3 w3 ⟨rfl, hb3⟩
  have HB3 := Lib.hid (HB2.out.trans (hb3.mono HB2.out.size))
  have HL3 := Lib.hid hb3
  clear hb3
  dsimp only
  by_cases h1 : s0 = 1
  · subst h1
    by_cases h4 : s4 = 0
    · subst h4
      cases s5 with
      | true =>
        have HX := Lib.hid (HN.out.trans (if_pos ⟨⟨rfl, rfl⟩, rfl⟩))
        have HL4 : Hid (Below w2.heap.size w2 (w3.alloc (.cells #[.int .i64 1, .int .i64 s1, .int .i64 s2, .int .i64 s3, .int .i64 0, .bool true] 77))) := Lib.hid (HL3.out.trans (Below.mono (show Below w3.heap.size w3 _ by go_grown) HL3.out.size))
        have HB4 := Lib.hid (HB2.out.trans (HL4.out.mono HB2.out.size))
        have y0 := cell_keep HL4.out z0
        have y1 := cell_keep HL4.out z1
        have y2 := cell_keep HL4.out z2
        have y3 := cell_keep HL4.out z3
        have y4 := cell_keep HL4.out z4
        have y5 := cell_keep HL4.out z5
        have y6 := cell_keep HL4.out z6
        clear z0 z1 z2 z3 z4 z5 z6
        go_wp2
        go_ret
        exact ⟨by rw [HX.out] <;> rfl, HB4.out⟩
      | false =>
        have HX := Lib.hid (HN.out.trans (if_neg (fun q => Bool.noConfusion q.2)))
        have HL4 : Hid (Below w2.heap.size w2 (w3.alloc (.cells #[.int .i64 1, .int .i64 s1, .int .i64 s2, .int .i64 s3, .int .i64 0, .bool false] 77))) := Lib.hid (HL3.out.trans (Below.mono (show Below w3.heap.size w3 _ by go_grown) HL3.out.size))
        have HB4 := Lib.hid (HB2.out.trans (HL4.out.mono HB2.out.size))
        have y0 := cell_keep HL4.out z0
        have y1 := cell_keep HL4.out z1
        have y2 := cell_keep HL4.out z2
        have y3 := cell_keep HL4.out z3
        have y4 := cell_keep HL4.out z4
        have y5 := cell_keep HL4.out z5
        have y6 := cell_keep HL4.out z6
        clear z0 z1 z2 z3 z4 z5 z6
        go_wp2
        go_ret
        exact ⟨by rw [HX.out] <;> rfl, HB4.out⟩
    · have h4b : (s4 == 0) = false := by simpa using h4
      have HX := Lib.hid (HN.out.trans (if_neg (fun q => h4 q.1.2)))
      clear h4
      have HL4 : Hid (Below w2.heap.size w2 (w3.alloc (.cells #[.int .i64 1, .int .i64 s1, .int .i64 s2, .int .i64 s3, .int .i64 s4, .bool s5] 77))) := Lib.hid (HL3.out.trans (Below.mono (show Below w3.heap.size w3 _ by go_grown) HL3.out.size))
      have HB4 := Lib.hid (HB2.out.trans (HL4.out.mono HB2.out.size))
      have y0 := cell_keep HL4.out z0
      have y1 := cell_keep HL4.out z1
      have y2 := cell_keep HL4.out z2
      have y3 := cell_keep HL4.out z3
      have y4 := cell_keep HL4.out z4
      have y5 := cell_keep HL4.out z5
      have y6 := cell_keep HL4.out z6
      clear z0 z1 z2 z3 z4 z5 z6
      go_wp2
      go_ret
      exact ⟨by rw [HX.out] <;> rfl, HB4.out⟩
  · have h1b : (s0 == 1) = false := by simpa using h1
    have HX := Lib.hid (HN.out.trans (if_neg (fun q => h1 q.1.1)))
    clear h1
    have HL4 : Hid (Below w2.heap.size w2 (w3.alloc (.cells #[.int .i64 s0, .int .i64 s1, .int .i64 s2, .int .i64 s3, .int .i64 s4, .bool s5] 77))) := Lib.hid (HL3.out.trans (Below.mono (show Below w3.heap.size w3 _ by go_grown) HL3.out.size))
    have HB4 := Lib.hid (HB2.out.trans (HL4.out.mono HB2.out.size))
    have y0 := cell_keep HL4.out z0
    have y1 := cell_keep HL4.out z1
    have y2 := cell_keep HL4.out z2
    have y3 := cell_keep HL4.out z3
    have y4 := cell_keep HL4.out z4
    have y5 := cell_keep HL4.out z5
    have y6 := cell_keep HL4.out z6
    clear z0 z1 z2 z3 z4 z5 z6
    go_wp2
    go_ret
    exact ⟨by rw [HX.out] <;> rfl, HB4.out⟩
set_option maxRecDepth 100000 in
set_option maxHeartbeats 8000000 in
theorem rnext_4 (A : Option Addr) (n cp : Nat) (es : List Ev) (e : Ev) (w : World) (hr : RdE w A es) (hl : es.length = n) (hn : n ≤ 1000) (hf : formB e = true) (hk : e.kind = 4) :
    Calls Tryd.prog 19 #[.slice A n cp, .agg (evC e)] w fun r w' => r = .returned (.int .i64 (nextR es e)) ∧ Below w.heap.size w w' := by
  have HN := Lib.hid (rn_4 (l := es) hf hk)
  obtain ⟨a0, a1, a2, a3, a4, a5, a6⟩ := e
  dsimp only at hk
  subst hk
  unfold evC
  try dsimp only
  obtain ⟨w1, hw1⟩ : ∃ W, w.alloc (.cells #[.int .i64 4, .int .i64 a1, .int .i64 a2, .int .i64 a3, .int .i64 a4, .int .i64 a5, .int .i64 a6] 43) = W := ⟨_, rfl⟩
  have hb1 : Below w.heap.size w w1 := by rw [← hw1]; go_grown
  have hs1 : w1.heap.size = w.heap.size + 1 := by rw [← hw1]; simp
  have e1 : w1.heap[w.heap.size]? = some (.cells #[.int .i64 4, .int .i64 a1, .int .i64 a2, .int .i64 a3, .int .i64 a4, .int .i64 a5, .int .i64 a6] 43 (0, 0)) := by rw [← hw1, heap_push, if_pos rfl]
  have HR := Lib.hid hr
  have HL := Lib.hid hl
  have HW1 := Lib.hid hw1
  have HB1 := Lib.hid hb1
  have HS1 := Lib.hid hs1
  have v0 := heap_cell e1 (j := 0) (u := .int .i64 4) rfl
  have v1 := heap_cell e1 (j := 1) (u := .int .i64 a1) rfl
  have v2 := heap_cell e1 (j := 2) (u := .int .i64 a2) rfl
  have v3 := heap_cell e1 (j := 3) (u := .int .i64 a3) rfl
  have v4 := heap_cell e1 (j := 4) (u := .int .i64 a4) rfl
  have v5 := heap_cell e1 (j := 5) (u := .int .i64 a5) rfl
  have v6 := heap_cell e1 (j := 6) (u := .int .i64 a6) rfl
  clear hr hl hw1 hb1 hs1 e1
  have HF := Lib.hid (fun W => rform_any ⟨4, a1, a2, a3, a4, a5, a6⟩ W)
  unfold evC at HF
  try dsimp only at HF
  go_enter Tryd.func19, Tryd.ntmps19
  go_wp2_with fail
  rw [HW1.out]
  refine (HF.out _).mono ?_
  rintro r2 w2 ⟨rfl, hb2⟩
  have HB2 := Lib.hid (HB1.out.trans (hb2.mono HB1.out.size))
  have z0 := cell_keep hb2 v0
  have z1 := cell_keep hb2 v1
  have z2 := cell_keep hb2 v2
  have z3 := cell_keep hb2 v3
  have z4 := cell_keep hb2 v4
  have z5 := cell_keep hb2 v5
  have z6 := cell_keep hb2 v6
  have HG2 := Lib.hid (show w.heap.size < w2.heap.size from Nat.lt_of_lt_of_le (by rw [HS1.out]; omega) hb2.size)
  clear hb2 v0 v1 v2 v3 v4 v5 v6 HF HW1
  rw [hf]
  clear hf
  dsimp only
  obtain ⟨⟨s0, s1, s2, s3, s4, s5⟩, hx⟩ : ∃ x, ofR es a2 = x := ⟨_, rfl⟩
  have HO := Lib.hid (of_any A n cp es a2 w2 (HR.out.below HB2.out (Nat.le_refl _)) HL.out hn)
  try dsimp only at HN
  rw [hx] at HO
  try rw [hx] at HN
  unfold ofC at HO
  try dsimp only at HO
  try dsimp only at HN
  clear hx
  go_wp2_with fail
  refine HO.out.mono ?_
  rintro r3 w3 ⟨rfl, hb3⟩
  have HB3 := Lib.hid (HB2.out.trans (hb3.mono HB2.out.size))
  have HL3 := Lib.hid hb3
  clear hb3
  dsimp only
  by_cases h1 : s0 = 1
  · subst h1
    by_cases h4 : 0 < s4
    · have h4b : ¬ s4 = 0 := by omega
      have h4c : (s4 == 0) = false := by simpa using h4b
      clear h4b
      by_cases h2 : s2 = a3
      · subst h2
        by_cases h3 : s3 = a4
        · subst h3
          have HX := Lib.hid (HN.out.trans (if_pos ⟨rfl, h4, rfl, rfl⟩))
          have HL4 : Hid (Below w2.heap.size w2 (w3.alloc (.cells #[.int .i64 1, .int .i64 s1, .int .i64 s2, .int .i64 s3, .int .i64 s4, .bool s5] 77))) := Lib.hid (HL3.out.trans (Below.mono (show Below w3.heap.size w3 _ by go_grown) HL3.out.size))
          have HB4 := Lib.hid (HB2.out.trans (HL4.out.mono HB2.out.size))
          have y0 := cell_keep HL4.out z0
          have y1 := cell_keep HL4.out z1
          have y2 := cell_keep HL4.out z2
          have y3 := cell_keep HL4.out z3
          have y4 := cell_keep HL4.out z4
          have y5 := cell_keep HL4.out z5
          have y6 := cell_keep HL4.out z6
          clear z0 z1 z2 z3 z4 z5 z6
          go_wp2
          go_ret
          exact ⟨by rw [HX.out] <;> rfl, HB4.out⟩
        · have h3b : (s3 == a4) = false := by simpa using h3
          have HX := Lib.hid (HN.out.trans (if_neg (fun q => h3 q.2.2.2)))
          clear h3
          have HL4 : Hid (Below w2.heap.size w2 (w3.alloc (.cells #[.int .i64 1, .int .i64 s1, .int .i64 s2, .int .i64 s3, .int .i64 s4, .bool s5] 77))) := Lib.hid (HL3.out.trans (Below.mono (show Below w3.heap.size w3 _ by go_grown) HL3.out.size))
          have HB4 := Lib.hid (HB2.out.trans (HL4.out.mono HB2.out.size))
          have y0 := cell_keep HL4.out z0
          have y1 := cell_keep HL4.out z1
          have y2 := cell_keep HL4.out z2
          have y3 := cell_keep HL4.out z3
          have y4 := cell_keep HL4.out z4
          have y5 := cell_keep HL4.out z5
          have y6 := cell_keep HL4.out z6
          clear z0 z1 z2 z3 z4 z5 z6
          go_wp2
          go_ret
          exact ⟨by rw [HX.out] <;> rfl, HB4.out⟩
      · have h2b : (s2 == a3) = false := by simpa using h2
        have HX := Lib.hid (HN.out.trans (if_neg (fun q => h2 q.2.2.1)))
        clear h2
        have HL4 : Hid (Below w2.heap.size w2 (w3.alloc (.cells #[.int .i64 1, .int .i64 s1, .int .i64 s2, .int .i64 s3, .int .i64 s4, .bool s5] 77))) := Lib.hid (HL3.out.trans (Below.mono (show Below w3.heap.size w3 _ by go_grown) HL3.out.size))
        have HB4 := Lib.hid (HB2.out.trans (HL4.out.mono HB2.out.size))
        have y0 := cell_keep HL4.out z0
        have y1 := cell_keep HL4.out z1
        have y2 := cell_keep HL4.out z2
        have y3 := cell_keep HL4.out z3
        have y4 := cell_keep HL4.out z4
        have y5 := cell_keep HL4.out z5
        have y6 := cell_keep HL4.out z6
        clear z0 z1 z2 z3 z4 z5 z6
        go_wp2
        go_ret
        exact ⟨by rw [HX.out] <;> rfl, HB4.out⟩
    · have HX := Lib.hid (HN.out.trans (if_neg (fun q => h4 q.2.1)))
      by_cases h5 : s4 = 0
      · subst h5
        have HL4 : Hid (Below w2.heap.size w2 (w3.alloc (.cells #[.int .i64 1, .int .i64 s1, .int .i64 s2, .int .i64 s3, .int .i64 0, .bool s5] 77))) := Lib.hid (HL3.out.trans (Below.mono (show Below w3.heap.size w3 _ by go_grown) HL3.out.size))
        have HB4 := Lib.hid (HB2.out.trans (HL4.out.mono HB2.out.size))
        have y0 := cell_keep HL4.out z0
        have y1 := cell_keep HL4.out z1
        have y2 := cell_keep HL4.out z2
        have y3 := cell_keep HL4.out z3
        have y4 := cell_keep HL4.out z4
        have y5 := cell_keep HL4.out z5
        have y6 := cell_keep HL4.out z6
        clear z0 z1 z2 z3 z4 z5 z6
        go_wp2
        go_ret
        exact ⟨by rw [HX.out] <;> rfl, HB4.out⟩
      · have h5b : (s4 == 0) = false := by simpa using h5
        clear h5
        have HL4 : Hid (Below w2.heap.size w2 (w3.alloc (.cells #[.int .i64 1, .int .i64 s1, .int .i64 s2, .int .i64 s3, .int .i64 s4, .bool s5] 77))) := Lib.hid (HL3.out.trans (Below.mono (show Below w3.heap.size w3 _ by go_grown) HL3.out.size))
        have HB4 := Lib.hid (HB2.out.trans (HL4.out.mono HB2.out.size))
        have y0 := cell_keep HL4.out z0
        have y1 := cell_keep HL4.out z1
        have y2 := cell_keep HL4.out z2
        have y3 := cell_keep HL4.out z3
        have y4 := cell_keep HL4.out z4
        have y5 := cell_keep HL4.out z5
        have y6 := cell_keep HL4.out z6
        clear z0 z1 z2 z3 z4 z5 z6
        go_wp2
        go_ret
        exact ⟨by rw [HX.out] <;> rfl, HB4.out⟩
  · have h1b : (s0 == 1) = false := by simpa using h1
    have HX := Lib.hid (HN.out.trans (if_neg (fun q => h1 q.1)))
    clear h1
    have HL4 : Hid (Below w2.heap.size w2 (w3.alloc (.cells #[.int .i64 s0, .int .i64 s1, .int .i64 s2, .int .i64 s3, .int .i64 s4, .bool s5] 77))) := Lib.hid (HL3.out.trans (Below.mono (show Below w3.heap.size w3 _ by go_grown) HL3.out.size))
    have HB4 := Lib.hid (HB2.out.trans (HL4.out.mono HB2.out.size))
    have y0 := cell_keep HL4.out z0
    have y1 := cell_keep HL4.out z1
    have y2 := cell_keep HL4.out z2
    have y3 := cell_keep HL4.out z3
    have y4 := cell_keep HL4.out z4
    have y5 := cell_keep HL4.out z5
    have y6 := cell_keep HL4.out z6
    clear z0 z1 z2 z3 z4 z5 z6
    go_wp2
    go_ret
    exact ⟨by rw [HX.out] <;> rfl, HB4.out⟩
end Go.Proofs.YtggkohkngockoaaDoor

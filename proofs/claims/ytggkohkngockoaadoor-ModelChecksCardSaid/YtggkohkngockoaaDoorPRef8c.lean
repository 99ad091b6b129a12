/-
  catchboltref20.Next, kind by kind. No conditions.
-/
import Derived.Test.YtggkohkngockoaaDoorPRef7
namespace Go.Proofs.YtggkohkngockoaaDoor
open Go.ChangeShapes Go.WideShapes Go.ChangeAt Go.RowKit Go.Maps
set_option linter.unusedVariables false
set_option linter.unusedSimpArgs false

set_option maxRecDepth 100000 in
set_option maxHeartbeats 8000000 in
theorem rnext_6 (A : Option Addr) (n cp : Nat) (es : List Ev) (e : Ev) (w : World) (hr : RdE w A es) (hl : es.length = n) (hn : n ≤ 1000) (hf : formB e = true) (hk : e.kind = 6) :
    Calls Tryd.prog 19 #[.slice A n cp, .agg (evC e)] w fun r w' => r = .returned (.int .i64 (nextR es e)) ∧ Below w.heap.size w w' := by
  have HN := Lib.hid (rn_6 (l := es) hf hk)
  obtain ⟨a0, a1, a2, a3, a4, a5, a6⟩ := e
  dsimp only at hk
  subst hk
  unfold evC
  try dsimp only
  obtain ⟨w1, hw1⟩ : ∃ W, w.alloc (.cells #[.int .i64 6, .int .i64 a1, .int .i64 a2, .int .i64 a3, .int .i64 a4, .int .i64 a5, .int .i64 a6] 43) = W := ⟨_, rfl⟩
  have hb1 : Below w.heap.size w w1 := by rw [← hw1]; go_grown
  have hs1 : w1.heap.size = w.heap.size + 1 := by rw [← hw1]; simp
  have e1 : w1.heap[w.heap.size]? = some (.cells #[.int .i64 6, .int .i64 a1, .int .i64 a2, .int .i64 a3, .int .i64 a4, .int .i64 a5, .int .i64 a6] 43 (0, 0)) := by rw [← hw1, heap_push, if_pos rfl]
  have HR := Lib.hid hr
  have HL := Lib.hid hl
  have HW1 := Lib.hid hw1
  have HB1 := Lib.hid hb1
  have HS1 := Lib.hid hs1
  have v0 := heap_cell e1 (j := 0) (u := .int .i64 6) rfl
  have v1 := heap_cell e1 (j := 1) (u := .int .i64 a1) rfl
  have v2 := heap_cell e1 (j := 2) (u := .int .i64 a2) rfl
  have v3 := heap_cell e1 (j := 3) (u := .int .i64 a3) rfl
  have v4 := heap_cell e1 (j := 4) (u := .int .i64 a4) rfl
  have v5 := heap_cell e1 (j := 5) (u := .int .i64 a5) rfl
  have v6 := heap_cell e1 (j := 6) (u := .int .i64 a6) rfl
  clear hr hl hw1 hb1 hs1 e1
  have HF := Lib.hid (fun W => rform_any ⟨6, a1, a2, a3, a4, a5, a6⟩ W)
  unfold evC at HF
  try dsimp only at HF
  go_enter Tryd.func19, Tryd.ntmps19
  go_wp2_with fail
  rw [HW1.out]
  refine (HF.out _).mono ?_
  rintro r2 w2 ⟨rfl, hb2⟩
  have HB2 := Lib.hid (HB1.out.trans (hb2.mono HB1.out.size))
  have z0 := cell_keep hb2 v0
  have z1 := cell_keep hb2 v1
  have z2 := cell_keep hb2 v2
  have z3 := cell_keep hb2 v3
  have z4 := cell_keep hb2 v4
  have z5 := cell_keep hb2 v5
  have z6 := cell_keep hb2 v6
  have HG2 := Lib.hid (show w.heap.size < w2.heap.size from Nat.lt_of_lt_of_le (by rw [HS1.out]; omega) hb2.size)
  clear hb2 v0 v1 v2 v3 v4 v5 v6 HF HW1
  rw [hf]
  clear hf
  dsimp only
  obtain ⟨⟨s0, s1, s2, s3, s4, s5⟩, hx⟩ : ∃ x, ofR es a2 = x := ⟨_, rfl⟩
  have HO := Lib.hid (of_any A n cp es a2 w2 (HR.out.below HB2.out (Nat.le_refl _)) HL.out hn)
  try dsimp only at HN
  rw [hx] at HO
  try rw [hx] at HN
  unfold ofC at HO
  try dsimp only at HO
  try dsimp only at HN
  clear hx
  go_wp2_with fail
  refine HO.out.mono ?_
  rintro r3 w3 ⟨rfl, hb3⟩
  have HB3 := Lib.hid (HB2.out.trans (hb3.mono HB2.out.size))
  have HL3 := Lib.hid hb3
  clear hb3
  dsimp only
  by_cases h2 : s0 = 2
  · subst h2
    cases hcl : clashR es a2 with
    | true =>
      have HX := Lib.hid (HN.out.trans ((if_pos (Or.inl rfl)).trans (if_pos hcl)))
      have HL4 : Hid (Below w2.heap.size w2 (w3.alloc (.cells #[.int .i64 2, .int .i64 s1, .int .i64 s2, .int .i64 s3, .int .i64 s4, .bool s5] 77))) := Lib.hid (HL3.out.trans (Below.mono (show Below w3.heap.size w3 _ by go_grown) HL3.out.size))
      have HB4 := Lib.hid (HB2.out.trans (HL4.out.mono HB2.out.size))
      have y0 := cell_keep HL4.out z0
      have y1 := cell_keep HL4.out z1
      have y2 := cell_keep HL4.out z2
      have y3 := cell_keep HL4.out z3
      have y4 := cell_keep HL4.out z4
      have y5 := cell_keep HL4.out z5
      have y6 := cell_keep HL4.out z6
      clear z0 z1 z2 z3 z4 z5 z6
      have HC := Lib.hid (rclash_any A n cp es a2 _ (HR.out.below HB4.out (Nat.le_refl _)) HL.out hn)
      rw [hcl] at HC
      clear hcl
      go_wp2_with fail
      refine HC.out.mono ?_
      rintro r5 w5 ⟨rfl, hb5⟩
      have HB5 := Lib.hid (HB4.out.trans (hb5.mono HB4.out.size))
      clear hb5
      dsimp only
      go_wp2
      go_ret
      exact ⟨by rw [HX.out] <;> rfl, HB5.out⟩
    | false =>
      have HX := Lib.hid (HN.out.trans ((if_pos (Or.inl rfl)).trans (if_neg (by rw [hcl]; simp))))
      have HL4 : Hid (Below w2.heap.size w2 (w3.alloc (.cells #[.int .i64 2, .int .i64 s1, .int .i64 s2, .int .i64 s3, .int .i64 s4, .bool s5] 77))) := Lib.hid (HL3.out.trans (Below.mono (show Below w3.heap.size w3 _ by go_grown) HL3.out.size))
      have HB4 := Lib.hid (HB2.out.trans (HL4.out.mono HB2.out.size))
      have y0 := cell_keep HL4.out z0
      have y1 := cell_keep HL4.out z1
      have y2 := cell_keep HL4.out z2
      have y3 := cell_keep HL4.out z3
      have y4 := cell_keep HL4.out z4
      have y5 := cell_keep HL4.out z5
      have y6 := cell_keep HL4.out z6
      clear z0 z1 z2 z3 z4 z5 z6
      have HC := Lib.hid (rclash_any A n cp es a2 _ (HR.out.below HB4.out (Nat.le_refl _)) HL.out hn)
      rw [hcl] at HC
      clear hcl
      go_wp2_with fail
      refine HC.out.mono ?_
      rintro r5 w5 ⟨rfl, hb5⟩
      have HB5 := Lib.hid (HB4.out.trans (hb5.mono HB4.out.size))
      clear hb5
      dsimp only
      go_wp2
      go_ret
      exact ⟨by rw [HX.out] <;> rfl, HB5.out⟩
  · have h2b : (s0 == 2) = false := by simpa using h2
    by_cases h1 : s0 = 1
    · subst h1
      clear h2 h2b
      by_cases h4 : s4 = 0
      · subst h4
        cases s5 with
        | false =>
          cases hcl : clashR es a2 with
          | true =>
            have HX := Lib.hid (HN.out.trans ((if_pos (Or.inr ⟨⟨rfl, rfl⟩, rfl⟩)).trans (if_pos hcl)))
            have HL4 : Hid (Below w2.heap.size w2 (w3.alloc (.cells #[.int .i64 1, .int .i64 s1, .int .i64 s2, .int .i64 s3, .int .i64 0, .bool false] 77))) := Lib.hid (HL3.out.trans (Below.mono (show Below w3.heap.size w3 _ by go_grown) HL3.out.size))
            have HB4 := Lib.hid (HB2.out.trans (HL4.out.mono HB2.out.size))
            have y0 := cell_keep HL4.out z0
            have y1 := cell_keep HL4.out z1
            have y2 := cell_keep HL4.out z2
            have y3 := cell_keep HL4.out z3
            have y4 := cell_keep HL4.out z4
            have y5 := cell_keep HL4.out z5
            have y6 := cell_keep HL4.out z6
            clear z0 z1 z2 z3 z4 z5 z6
            have HC := Lib.hid (rclash_any A n cp es a2 _ (HR.out.below HB4.out (Nat.le_refl _)) HL.out hn)
            rw [hcl] at HC
            clear hcl
            go_wp2_with fail
            refine HC.out.mono ?_
            rintro r5 w5 ⟨rfl, hb5⟩
            have HB5 := Lib.hid (HB4.out.trans (hb5.mono HB4.out.size))
            clear hb5
            dsimp only
            go_wp2
            go_ret
            exact ⟨by rw [HX.out] <;> rfl, HB5.out⟩
          | false =>
            have HX := Lib.hid (HN.out.trans ((if_pos (Or.inr ⟨⟨rfl, rfl⟩, rfl⟩)).trans (if_neg (by rw [hcl]; simp))))
            have HL4 : Hid (Below w2.heap.size w2 (w3.alloc (.cells #[.int .i64 1, .int .i64 s1, .int .i64 s2, .int .i64 s3, .int .i64 0, .bool false] 77))) := Lib.hid (HL3.out.trans (Below.mono (show Below w3.heap.size w3 _ by go_grown) HL3.out.size))
            have HB4 := Lib.hid (HB2.out.trans (HL4.out.mono HB2.out.size))
            have y0 := cell_keep HL4.out z0
            have y1 := cell_keep HL4.out z1
            have y2 := cell_keep HL4.out z2
            have y3 := cell_keep HL4.out z3
            have y4 := cell_keep HL4.out z4
            have y5 := cell_keep HL4.out z5
            have y6 := cell_keep HL4.out z6
            clear z0 z1 z2 z3 z4 z5 z6
            have HC := Lib.hid (rclash_any A n cp es a2 _ (HR.out.below HB4.out (Nat.le_refl _)) HL.out hn)
            rw [hcl] at HC
            clear hcl
            go_wp2_with fail
            refine HC.out.mono ?_
            rintro r5 w5 ⟨rfl, hb5⟩
            have HB5 := Lib.hid (HB4.out.trans (hb5.mono HB4.out.size))
            clear hb5
            dsimp only
            go_wp2
            go_ret
            exact ⟨by rw [HX.out] <;> rfl, HB5.out⟩
        | true =>
          have HX := Lib.hid (HN.out.trans (if_neg (by simp)))
          have HL4 : Hid (Below w2.heap.size w2 (w3.alloc (.cells #[.int .i64 1, .int .i64 s1, .int .i64 s2, .int .i64 s3, .int .i64 0, .bool true] 77))) := Lib.hid (HL3.out.trans (Below.mono (show Below w3.heap.size w3 _ by go_grown) HL3.out.size))
          have HB4 := Lib.hid (HB2.out.trans (HL4.out.mono HB2.out.size))
          have y0 := cell_keep HL4.out z0
          have y1 := cell_keep HL4.out z1
          have y2 := cell_keep HL4.out z2
          have y3 := cell_keep HL4.out z3
          have y4 := cell_keep HL4.out z4
          have y5 := cell_keep HL4.out z5
          have y6 := cell_keep HL4.out z6
          clear z0 z1 z2 z3 z4 z5 z6
          go_wp2
          go_ret
          exact ⟨by rw [HX.out] <;> rfl, HB4.out⟩
      · have h4b : (s4 == 0) = false := by simpa using h4
        have HX := Lib.hid (HN.out.trans (if_neg (by simp [h4])))
        clear h4
        have HL4 : Hid (Below w2.heap.size w2 (w3.alloc (.cells #[.int .i64 1, .int .i64 s1, .int .i64 s2, .int .i64 s3, .int .i64 s4, .bool s5] 77))) := Lib.hid (HL3.out.trans (Below.mono (show Below w3.heap.size w3 _ by go_grown) HL3.out.size))
        have HB4 := Lib.hid (HB2.out.trans (HL4.out.mono HB2.out.size))
        have y0 := cell_keep HL4.out z0
        have y1 := cell_keep HL4.out z1
        have y2 := cell_keep HL4.out z2
        have y3 := cell_keep HL4.out z3
        have y4 := cell_keep HL4.out z4
        have y5 := cell_keep HL4.out z5
        have y6 := cell_keep HL4.out z6
        clear z0 z1 z2 z3 z4 z5 z6
        go_wp2
        go_ret
        exact ⟨by rw [HX.out] <;> rfl, HB4.out⟩
    · have h1b : (s0 == 1) = false := by simpa using h1
      have HX := Lib.hid (HN.out.trans (if_neg (by simp [h1, h2])))
      clear h1 h2
      have HL4 : Hid (Below w2.heap.size w2 (w3.alloc (.cells #[.int .i64 s0, .int .i64 s1, .int .i64 s2, .int .i64 s3, .int .i64 s4, .bool s5] 77))) := Lib.hid (HL3.out.trans (Below.mono (show Below w3.heap.size w3 _ by go_grown) HL3.out.size))
      have HB4 := Lib.hid (HB2.out.trans (HL4.out.mono HB2.out.size))
      have y0 := cell_keep HL4.out z0
      have y1 := cell_keep HL4.out z1
      have y2 := cell_keep HL4.out z2
      have y3 := cell_keep HL4.out z3
      have y4 := cell_keep HL4.out z4
      have y5 := cell_keep HL4.out z5
      have y6 := cell_keep HL4.out z6
      clear z0 z1 z2 z3 z4 z5 z6
      go_wp2
      go_ret
      exact ⟨by rw [HX.out] <;> rfl, HB4.out⟩
set_option maxRecDepth 100000 in
set_option maxHeartbeats 8000000 in
theorem rnext_8 (A : Option Addr) (n cp : Nat) (es : List Ev) (e : Ev) (w : World) (hr : RdE w A es) (hl : es.length = n) (hn : n ≤ 1000) (hf : formB e = true) (hk : e.kind = 8) :
    Calls Tryd.prog 19 #[.slice A n cp, .agg (evC e)] w fun r w' => r = .returned (.int .i64 (nextR es e)) ∧ Below w.heap.size w w' := by
  have HN := Lib.hid (rn_8 (l := es) hf hk)
  obtain ⟨a0, a1, a2, a3, a4, a5, a6⟩ := e
  dsimp only at hk
  subst hk
  unfold evC
  try dsimp only
  obtain ⟨w1, hw1⟩ : ∃ W, w.alloc (.cells #[.int .i64 8, .int .i64 a1, .int .i64 a2, .int .i64 a3, .int .i64 a4, .int .i64 a5, .int .i64 a6] 43) = W := ⟨_, rfl⟩
  have hb1 : Below w.heap.size w w1 := by rw [← hw1]; go_grown
  have hs1 : w1.heap.size = w.heap.size + 1 := by rw [← hw1]; simp
  have e1 : w1.heap[w.heap.size]? = some (.cells #[.int .i64 8, .int .i64 a1, .int .i64 a2, .int .i64 a3, .int .i64 a4, .int .i64 a5, .int .i64 a6] 43 (0, 0)) := by rw [← hw1, heap_push, if_pos rfl]
  have HR := Lib.hid hr
  have HL := Lib.hid hl
  have HW1 := Lib.hid hw1
  have HB1 := Lib.hid hb1
  have HS1 := Lib.hid hs1
  have v0 := heap_cell e1 (j := 0) (u := .int .i64 8) rfl
  have v1 := heap_cell e1 (j := 1) (u := .int .i64 a1) rfl
  have v2 := heap_cell e1 (j := 2) (u := .int .i64 a2) rfl
  have v3 := heap_cell e1 (j := 3) (u := .int .i64 a3) rfl
  have v4 := heap_cell e1 (j := 4) (u := .int .i64 a4) rfl
  have v5 := heap_cell e1 (j := 5) (u := .int .i64 a5) rfl
  have v6 := heap_cell e1 (j := 6) (u := .int .i64 a6) rfl
  clear hr hl hw1 hb1 hs1 e1
  have HF := Lib.hid (fun W => rform_any ⟨8, a1, a2, a3, a4, a5, a6⟩ W)
  unfold evC at HF
  try dsimp only at HF
  go_enter Tryd.func19, Tryd.ntmps19
  go_wp2_with fail
  rw [HW1.out]
  refine (HF.out _).mono ?_
  rintro r2 w2 ⟨rfl, hb2⟩
  have HB2 := Lib.hid (HB1.out.trans (hb2.mono HB1.out.size))
  have z0 := cell_keep hb2 v0
  have z1 := cell_keep hb2 v1
  have z2 := cell_keep hb2 v2
  have z3 := cell_keep hb2 v3
  have z4 := cell_keep hb2 v4
  have z5 := cell_keep hb2 v5
  have z6 := cell_keep hb2 v6
  have HG2 := Lib.hid (show w.heap.size < w2.heap.size from Nat.lt_of_lt_of_le (by rw [HS1.out]; omega) hb2.size)
  clear hb2 v0 v1 v2 v3 v4 v5 v6 HF HW1
  rw [hf]
  clear hf
  dsimp only
  obtain ⟨⟨s0, s1, s2, s3, s4, s5⟩, hx⟩ : ∃ x, ofR es a2 = x := ⟨_, rfl⟩
  have HO := Lib.hid (of_any A n cp es a2 w2 (HR.out.below HB2.out (Nat.le_refl _)) HL.out hn)
  try dsimp only at HN
  rw [hx] at HO
  try rw [hx] at HN
  unfold ofC at HO
  try dsimp only at HO
  try dsimp only at HN
  clear hx
  go_wp2_with fail
  refine HO.out.mono ?_
  rintro r3 w3 ⟨rfl, hb3⟩
  have HB3 := Lib.hid (HB2.out.trans (hb3.mono HB2.out.size))
  have HL3 := Lib.hid hb3
  clear hb3
  dsimp only
  by_cases h1 : s0 = 1
  · subst h1
    have HL4 : Hid (Below w2.heap.size w2 (w3.alloc (.cells #[.int .i64 1, .int .i64 s1, .int .i64 s2, .int .i64 s3, .int .i64 s4, .bool s5] 77))) := Lib.hid (HL3.out.trans (Below.mono (show Below w3.heap.size w3 _ by go_grown) HL3.out.size))
    have HB4 := Lib.hid (HB2.out.trans (HL4.out.mono HB2.out.size))
    have y0 := cell_keep HL4.out z0
    have y1 := cell_keep HL4.out z1
    have y2 := cell_keep HL4.out z2
    have y3 := cell_keep HL4.out z3
    have y4 := cell_keep HL4.out z4
    have y5 := cell_keep HL4.out z5
    have y6 := cell_keep HL4.out z6
    clear z0 z1 z2 z3 z4 z5 z6
    go_wp2
    obtain ⟨w4, hw4⟩ : ∃ W, w3.alloc (.cells #[.int .i64 1, .int .i64 s1, .int .i64 s2, .int .i64 s3, .int .i64 s4, .bool s5] 77) = W := ⟨_, rfl⟩
    rw [hw4] at HB4 y1 HL4
    try rw [hw4]
    clear hw4 y0 y2 y3 y4 y5 y6
    have g4 : w.heap.size < w4.heap.size := Nat.lt_of_lt_of_le HG2.out HL4.out.size
    go_loopw [5, 8] (fun v i wr => ∃ k : Nat, k ≤ n ∧ i = .int .i64 k ∧ v = .bool (crashedR (es.take k) a1) ∧ Below w4.heap.size w4 wr) (fun _ i _ => n - (intOf i).toNat)
    case atStart => exact ⟨0, Nat.zero_le _, rfl, rfl, Below.refl _ _⟩
    case round =>
      obtain ⟨k, hk, rfl, rfl, hbr⟩ := hrel
      have HBR := Lib.hid hbr
      have x1 := cell_keep hbr y1
      clear hbr
      by_cases hlt : k < n
      · have hlt' : (k : Int) < n := by omega
        have HRR := Lib.hid (HR.out.below (HB4.out.trans (HBR.out.mono HB4.out.size)) (Nat.le_refl _))
        have hkl : k < es.length := by rw [HL.out]; exact hlt
        obtain ⟨ge, oe, hA, hc⟩ := (HRR.out)
        obtain ⟨rfl, lge⟩ := hA (by rw [HL.out]; omega)
        obtain ⟨p0, p1, p2, p3, p4, p5, p6⟩ := hc k hkl
        have HKL := Lib.hid hkl
        clear hA hc hkl
        obtain ⟨E, hE⟩ : ∃ E, es.getD k Ev.none = E := ⟨_, rfl⟩
        have HE := Lib.hid hE
        rw [hE] at p0 p1 p2 p3 p4 p5 p6
        clear hE
        obtain ⟨ek, ec, ex, et, er, em, eq⟩ := E
        simp only at p0 p1 p2 p3 p4 p5 p6
        have hct := crashed_take a1 HKL.out
        rw [HE.out] at hct
        try dsimp only at hct
        obtain ⟨cr, hcr⟩ : ∃ v, crashedR (es.take k) a1 = v := ⟨_, rfl⟩
        rw [hcr] at hct ⊢
        have HCT := Lib.hid hct
        clear hct hcr
        cases cr with
        | false =>
          have HFR : Hid (crashedR (es.take (k + 1)) a1 = false) := Lib.hid (HCT.out.trans (by simp))
          go_wp2_with fail
          go_quiet (fail)
          go_wp2
          go_roundw
          case rel => exact ⟨k + 1, by omega, by go_num, by rw [HFR.out], below_drewN HBR.out _⟩
          case measure => simp [intOf]; omega
        | true =>
          by_cases h8 : ek = 8
          · subst h8
            by_cases h9 : ec = a1
            · subst h9
              have HFR : Hid (crashedR (es.take (k + 1)) ec = false) := Lib.hid (HCT.out.trans (by simp))
              go_wp2_with fail
              go_quiet (fail)
              go_wp2
              go_roundw
              case rel => exact ⟨k + 1, by omega, by go_num, by rw [HFR.out], below_drewN HBR.out _⟩
              case measure => simp [intOf]; omega
            · have h9b : (ec != a1) = true := by simpa using h9
              have HFR : Hid (crashedR (es.take (k + 1)) a1 = true) := Lib.hid (HCT.out.trans (by simp [h9]))
              clear h9
              go_wp2_with fail
              go_quiet (fail)
              go_wp2
              go_roundw
              case rel => exact ⟨k + 1, by omega, by go_num, by rw [HFR.out], below_drewN HBR.out _⟩
              case measure => simp [intOf]; omega
          · have h8b : (ek != 8) = true := by simpa using h8
            have HFR : Hid (crashedR (es.take (k + 1)) a1 = true) := Lib.hid (HCT.out.trans (by simp [h8]))
            clear h8
            go_wp2_with fail
            go_quiet (fail)
            go_wp2
            go_roundw
            case rel => exact ⟨k + 1, by omega, by go_num, by rw [HFR.out], below_drewN HBR.out _⟩
            case measure => simp [intOf]; omega
      · have hkn : k = n := by omega
        subst hkn
        have hge : ¬ (k : Int) < k := by omega
        rw [show es.take k = es by rw [← HL.out]; exact List.take_length]
        cases hcr : crashedR es a1 with
        | true =>
          have HX := Lib.hid (HN.out.trans (if_pos hcr))
          clear hcr
          go_wp2
          go_ret
          exact ⟨by rw [HX.out] <;> rfl, HB4.out.trans (HBR.out.mono HB4.out.size)⟩
        | false =>
          have HX := Lib.hid (HN.out.trans (if_neg (by rw [hcr]; simp)))
          clear hcr
          go_wp2
          go_ret
          exact ⟨by rw [HX.out] <;> rfl, HB4.out.trans (HBR.out.mono HB4.out.size)⟩
  · have h1b : (s0 == 1) = false := by simpa using h1
    clear h1
    have HL4 : Hid (Below w2.heap.size w2 (w3.alloc (.cells #[.int .i64 s0, .int .i64 s1, .int .i64 s2, .int .i64 s3, .int .i64 s4, .bool s5] 77))) := Lib.hid (HL3.out.trans (Below.mono (show Below w3.heap.size w3 _ by go_grown) HL3.out.size))
    have HB4 := Lib.hid (HB2.out.trans (HL4.out.mono HB2.out.size))
    have y0 := cell_keep HL4.out z0
    have y1 := cell_keep HL4.out z1
    have y2 := cell_keep HL4.out z2
    have y3 := cell_keep HL4.out z3
    have y4 := cell_keep HL4.out z4
    have y5 := cell_keep HL4.out z5
    have y6 := cell_keep HL4.out z6
    clear z0 z1 z2 z3 z4 z5 z6
    go_wp2
    obtain ⟨w4, hw4⟩ : ∃ W, w3.alloc (.cells #[.int .i64 s0, .int .i64 s1, .int .i64 s2, .int .i64 s3, .int .i64 s4, .bool s5] 77) = W := ⟨_, rfl⟩
    rw [hw4] at HB4 y1 HL4
    try rw [hw4]
    clear hw4 y0 y2 y3 y4 y5 y6
    have g4 : w.heap.size < w4.heap.size := Nat.lt_of_lt_of_le HG2.out HL4.out.size
    go_loopw [5, 8] (fun v i wr => ∃ k : Nat, k ≤ n ∧ i = .int .i64 k ∧ v = .bool (crashedR (es.take k) a1) ∧ Below w4.heap.size w4 wr) (fun _ i _ => n - (intOf i).toNat)
    case atStart => exact ⟨0, Nat.zero_le _, rfl, rfl, Below.refl _ _⟩
    case round =>
      obtain ⟨k, hk, rfl, rfl, hbr⟩ := hrel
      have HBR := Lib.hid hbr
      have x1 := cell_keep hbr y1
      clear hbr
      by_cases hlt : k < n
      · have hlt' : (k : Int) < n := by omega
        have HRR := Lib.hid (HR.out.below (HB4.out.trans (HBR.out.mono HB4.out.size)) (Nat.le_refl _))
        have hkl : k < es.length := by rw [HL.out]; exact hlt
        obtain ⟨ge, oe, hA, hc⟩ := (HRR.out)
        obtain ⟨rfl, lge⟩ := hA (by rw [HL.out]; omega)
        obtain ⟨p0, p1, p2, p3, p4, p5, p6⟩ := hc k hkl
        have HKL := Lib.hid hkl
        clear hA hc hkl
        obtain ⟨E, hE⟩ : ∃ E, es.getD k Ev.none = E := ⟨_, rfl⟩
        have HE := Lib.hid hE
        rw [hE] at p0 p1 p2 p3 p4 p5 p6
        clear hE
        obtain ⟨ek, ec, ex, et, er, em, eq⟩ := E
        simp only at p0 p1 p2 p3 p4 p5 p6
        have hct := crashed_take a1 HKL.out
        rw [HE.out] at hct
        try dsimp only at hct
        obtain ⟨cr, hcr⟩ : ∃ v, crashedR (es.take k) a1 = v := ⟨_, rfl⟩
        rw [hcr] at hct ⊢
        have HCT := Lib.hid hct
        clear hct hcr
        cases cr with
        | false =>
          have HFR : Hid (crashedR (es.take (k + 1)) a1 = false) := Lib.hid (HCT.out.trans (by simp))
          go_wp2_with fail
          go_quiet (fail)
          go_wp2
          go_roundw
          case rel => exact ⟨k + 1, by omega, by go_num, by rw [HFR.out], below_drewN HBR.out _⟩
          case measure => simp [intOf]; omega
        | true =>
          by_cases h8 : ek = 8
          · subst h8
            by_cases h9 : ec = a1
            · subst h9
              have HFR : Hid (crashedR (es.take (k + 1)) ec = false) := Lib.hid (HCT.out.trans (by simp))
              go_wp2_with fail
              go_quiet (fail)
              go_wp2
              go_roundw
              case rel => exact ⟨k + 1, by omega, by go_num, by rw [HFR.out], below_drewN HBR.out _⟩
              case measure => simp [intOf]; omega
            · have h9b : (ec != a1) = true := by simpa using h9
              have HFR : Hid (crashedR (es.take (k + 1)) a1 = true) := Lib.hid (HCT.out.trans (by simp [h9]))
              clear h9
              go_wp2_with fail
              go_quiet (fail)
              go_wp2
              go_roundw
              case rel => exact ⟨k + 1, by omega, by go_num, by rw [HFR.out], below_drewN HBR.out _⟩
              case measure => simp [intOf]; omega
          · have h8b : (ek != 8) = true := by simpa using h8
            have HFR : Hid (crashedR (es.take (k + 1)) a1 = true) := Lib.hid (HCT.out.trans (by simp [h8]))
            clear h8
            go_wp2_with fail
            go_quiet (fail)
            go_wp2
            go_roundw
            case rel => exact ⟨k + 1, by omega, by go_num, by rw [HFR.out], below_drewN HBR.out _⟩
            case measure => simp [intOf]; omega
      · have hkn : k = n := by omega
        subst hkn
        have hge : ¬ (k : Int) < k := by omega
        rw [show es.take k = es by rw [← HL.out]; exact List.take_length]
        cases hcr : crashedR es a1 with
        | true =>
          have HX := Lib.hid (HN.out.trans (if_pos hcr))
          clear hcr
          go_wp2
          go_ret
          exact ⟨by rw [HX.out] <;> rfl, HB4.out.trans (HBR.out.mono HB4.out.size)⟩
        | false =>
          have HX := Lib.hid (HN.out.trans (if_neg (by rw [hcr]; simp)))
          clear hcr
          go_wp2
          go_ret
          exact ⟨by rw [HX.out] <;> rfl, HB4.out.trans (HBR.out.mono HB4.out.size)⟩
end Go.Proofs.YtggkohkngockoaaDoor

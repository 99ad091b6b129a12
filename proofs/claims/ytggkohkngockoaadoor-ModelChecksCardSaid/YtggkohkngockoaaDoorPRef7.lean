/-
  catchboltref20.Form for every kind; Next at the kinds 2, 4, 5, 7. No conditions.
-/
import Derived.Test.YtggkohkngockoaaDoorPRef4a
import Derived.Test.YtggkohkngockoaaDoorPRef4b
import Derived.Test.YtggkohkngockoaaDoorPRef4c
import Derived.Test.YtggkohkngockoaaDoorPRef5
import Derived.Test.YtggkohkngockoaaDoorPRef3
namespace Go.Proofs.YtggkohkngockoaaDoor
open Go.ChangeShapes Go.WideShapes Go.ChangeAt Go.RowKit Go.Maps
set_option linter.unusedVariables false
set_option linter.unusedSimpArgs false

def evC (e : Ev) : Array Value := #[.int .i64 e.kind, .int .i64 e.client, .int .i64 e.tx, .int .i64 e.table, .int .i64 e.row, .int .i64 e.mode, .int .i64 e.code]
theorem rform_low {k c x t r m q : Int} (h : k < 1) : formB ⟨k, c, x, t, r, m, q⟩ = false := by
  have h1 : ¬ k = 1 := by omega
  have h2 : ¬ k = 2 := by omega
  have h3 : ¬ k = 3 := by omega
  have h4 : ¬ k = 4 := by omega
  have h5 : ¬ k = 5 := by omega
  have h6 : ¬ k = 6 := by omega
  have h7 : ¬ k = 7 := by omega
  have h8 : ¬ k = 8 := by omega
  unfold formB
  simp [h1, h2, h3, h4, h5, h6, h7, h8]
theorem rform_high {k c x t r m q : Int} (h : 8 < k) : formB ⟨k, c, x, t, r, m, q⟩ = false := by
  have h1 : ¬ k = 1 := by omega
  have h2 : ¬ k = 2 := by omega
  have h3 : ¬ k = 3 := by omega
  have h4 : ¬ k = 4 := by omega
  have h5 : ¬ k = 5 := by omega
  have h6 : ¬ k = 6 := by omega
  have h7 : ¬ k = 7 := by omega
  have h8 : ¬ k = 8 := by omega
  unfold formB
  simp [h1, h2, h3, h4, h5, h6, h7, h8]
set_option maxHeartbeats 1000000 in
theorem rform_any (e : Ev) (w : World) :
    Calls Tryd.prog 27 #[.agg (evC e)] w fun r w' => r = .returned (.bool (formB e)) ∧ Below w.heap.size w w' := by
  obtain ⟨k, c, x, t, r, m, q⟩ := e
  unfold evC
  dsimp only
  by_cases h1 : k < 1
  · have hb : Hid (formB ⟨k, c, x, t, r, m, q⟩ = false) := Lib.hid (rform_low h1)
    go_enter Tryd.func27, Tryd.ntmps27
    go_wp2
    go_ret
    exact ⟨by rw [hb.out] <;> rfl, by go_grown⟩
  · by_cases h8 : 8 < k
    · have hb : Hid (formB ⟨k, c, x, t, r, m, q⟩ = false) := Lib.hid (rform_high h8)
      go_enter Tryd.func27, Tryd.ntmps27
      go_wp2
      go_ret
      exact ⟨by rw [hb.out] <;> rfl, by go_grown⟩
    · obtain rfl | rfl | rfl | rfl | rfl | rfl | rfl | rfl : k = 1 ∨ k = 2 ∨ k = 3 ∨ k = 4 ∨ k = 5 ∨ k = 6 ∨ k = 7 ∨ k = 8 := by omega
      · exact rform1 c x t r m q w
      · exact rform2 c x t r m q w
      · exact rform3 c x t r m q w
      · exact rform4 c x t r m q w
      · exact rform5 c x t r m q w
      · exact rform6 c x t r m q w
      · exact rform7 c x t r m q w
      · exact rform8 c x t r m q w
theorem rn_bad {l : List Ev} {e : Ev} (hf : formB e = false) : nextR l e = 5 := by
  unfold nextR; rw [if_pos hf]
theorem rn_2 {l : List Ev} {e : Ev} (hf : formB e = true) (hk : e.kind = 2) : nextR l e = if (ofR l e.tx).state = 1 ∧ (ofR l e.tx).mode = 0 then 0 else 11 := by
  unfold nextR; rw [if_neg (by simp [hf])]; simp [hk]
theorem rn_4 {l : List Ev} {e : Ev} (hf : formB e = true) (hk : e.kind = 4) : nextR l e = if (ofR l e.tx).state = 1 ∧ 0 < (ofR l e.tx).mode ∧ (ofR l e.tx).table = e.table ∧ (ofR l e.tx).row = e.row then 0 else 11 := by
  unfold nextR; rw [if_neg (by simp [hf])]; simp [hk]
theorem rn_5 {l : List Ev} {e : Ev} (hf : formB e = true) (hk : e.kind = 5) : nextR l e = if ((ofR l e.tx).state = 1 ∧ (ofR l e.tx).mode = 0) ∧ (ofR l e.tx).asked = true then 0 else 11 := by
  unfold nextR; rw [if_neg (by simp [hf])]; simp [hk]
theorem rn_7 {l : List Ev} {e : Ev} (hf : formB e = true) (hk : e.kind = 7) : nextR l e = if (ofR l e.tx).state = 1 ∨ (ofR l e.tx).state = 2 then 0 else 11 := by
  unfold nextR; rw [if_neg (by simp [hf])]; simp [hk]
theorem rn_1 {l : List Ev} {e : Ev} (hf : formB e = true) (hk : e.kind = 1) : nextR l e = if beganR l e = true then 0 else 11 := by
  unfold nextR; rw [if_neg (by simp [hf])]; simp [hk]
theorem rn_3 {l : List Ev} {e : Ev} (hf : formB e = true) (hk : e.kind = 3) : nextR l e = if (ofR l e.tx).state = 1 ∧ grantedR l (ofR l e.tx) e = true then 0 else 11 := by
  unfold nextR; rw [if_neg (by simp [hf])]; simp [hk]
theorem rn_6 {l : List Ev} {e : Ev} (hf : formB e = true) (hk : e.kind = 6) : nextR l e = if (ofR l e.tx).state = 2 ∨ (((ofR l e.tx).state = 1 ∧ (ofR l e.tx).mode = 0) ∧ (ofR l e.tx).asked = false) then (if clashR l e.tx = true then 8 else 0) else 11 := by
  unfold nextR; rw [if_neg (by simp [hf])]; simp [hk]
theorem rn_8 {l : List Ev} {e : Ev} (hf : formB e = true) (hk : e.kind = 8) : nextR l e = if crashedR l e.client = true then 0 else 11 := by
  unfold nextR; rw [if_neg (by simp [hf])]; simp [hk]
theorem crashed_snoc (l : List Ev) (a : Ev) (c : Int) : crashedR (l ++ [a]) c = (crashedR l c && decide (¬ a.kind = 8 ∨ ¬ a.client = c)) := by simp [crashedR]
theorem crashed_take {l : List Ev} {k : Nat} (c : Int) (h : k < l.length) : crashedR (l.take (k + 1)) c = (crashedR (l.take k) c && decide (¬ (l.getD k Ev.none).kind = 8 ∨ ¬ (l.getD k Ev.none).client = c)) := by rw [take_snoc h, crashed_snoc]
set_option maxRecDepth 100000 in
set_option maxHeartbeats 8000000 in
theorem rnext_bad (A : Option Addr) (n cp : Nat) (es : List Ev) (e : Ev) (w : World) (hr : RdE w A es) (hl : es.length = n) (hn : n ≤ 1000) (hf : formB e = false) :
    Calls Tryd.prog 19 #[.slice A n cp, .agg (evC e)] w fun r w' => r = .returned (.int .i64 (nextR es e)) ∧ Below w.heap.size w w' := by
  have HN := Lib.hid (rn_bad (l := es) hf)
  obtain ⟨a0, a1, a2, a3, a4, a5, a6⟩ := e
  unfold evC
  try dsimp only
  obtain ⟨w1, hw1⟩ : ∃ W, w.alloc (.cells #[.int .i64 a0, .int .i64 a1, .int .i64 a2, .int .i64 a3, .int .i64 a4, .int .i64 a5, .int .i64 a6] 43) = W := ⟨_, rfl⟩
  have hb1 : Below w.heap.size w w1 := by rw [← hw1]; go_grown
  have hs1 : w1.heap.size = w.heap.size + 1 := by rw [← hw1]; simp
  have e1 : w1.heap[w.heap.size]? = some (.cells #[.int .i64 a0, .int .i64 a1, .int .i64 a2, .int .i64 a3, .int .i64 a4, .int .i64 a5, .int .i64 a6] 43 (0, 0)) := by rw [← hw1, heap_push, if_pos rfl]
  have HR := Lib.hid hr
  have HL := Lib.hid hl
  have HW1 := Lib.hid hw1
  have HB1 := Lib.hid hb1
  have HS1 := Lib.hid hs1
  have v0 := heap_cell e1 (j := 0) (u := .int .i64 a0) rfl
  have v1 := heap_cell e1 (j := 1) (u := .int .i64 a1) rfl
  have v2 := heap_cell e1 (j := 2) (u := .int .i64 a2) rfl
  have v3 := heap_cell e1 (j := 3) (u := .int .i64 a3) rfl
  have v4 := heap_cell e1 (j := 4) (u := .int .i64 a4) rfl
  have v5 := heap_cell e1 (j := 5) (u := .int .i64 a5) rfl
  have v6 := heap_cell e1 (j := 6) (u := .int .i64 a6) rfl
  clear hr hl hw1 hb1 hs1 e1
  have HF := Lib.hid (fun W => rform_any ⟨a0, a1, a2, a3, a4, a5, a6⟩ W)
  unfold evC at HF
  try dsimp only at HF
  go_enter Tryd.func19, Tryd.ntmps19
  go_wp2_with fail
  rw [HW1.out]
  refine (HF.out _).mono ?_
  rintro r2 w2 ⟨rfl, hb2⟩
  have HB2 := Lib.hid (HB1.out.trans (hb2.mono HB1.out.size))
  have z0 := cell_keep hb2 v0
  have z1 := cell_keep hb2 v1
  have z2 := cell_keep hb2 v2
  have z3 := cell_keep hb2 v3
  have z4 := cell_keep hb2 v4
  have z5 := cell_keep hb2 v5
  have z6 := cell_keep hb2 v6
  have HG2 := Lib.hid (show w.heap.size < w2.heap.size from Nat.lt_of_lt_of_le (by rw [HS1.out]; omega) hb2.size)
  clear hb2 v0 v1 v2 v3 v4 v5 v6 HF HW1
  rw [hf]
  dsimp only
  go_wp2
  go_ret
  exact ⟨by rw [HN.out] <;> rfl, HB2.out⟩
end Go.Proofs.YtggkohkngockoaaDoor

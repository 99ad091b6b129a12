/-
  catchboltlaw02.ResMay: whether any resource may be, its table, its shard, and its text, or the error, are the document's. The condition: the listed variables read as the program's text lays them.
-/
import Derived.Test.YtonphamahnagfaaDoorResM
namespace Go.Proofs.YtonphamahnagfaaDoor
open Go.ChangeShapes Go.WideShapes Go.ChangeAt Go.RowKit
set_option linter.unusedVariables false


theorem code_is (k : Int) (w : World) (hk : 1 ≤ k) (hk2 : k ≤ 15) : Calls Tryd.prog 11 #[.iface 57 (.int .i64 k)] w fun e w' => e = .returned (.int .i64 k) ∧ w = w' := code_errno k w hk hk2

set_option maxRecDepth 100000 in
set_option maxHeartbeats 2000000 in
theorem may_bad (t r n : Int) (w : World) (hE : ErrT w) (h : okR t r = false) :
    Calls Tryd.prog 6 #[.agg #[.int .i64 t, .int .i64 r], .int .i64 n] w fun e w' => e = .returned (.bool true) ∧ Below w.heap.size w w' := by
  have hbA : Below w.heap.size w (w.alloc (.cells #[.int .i64 t, .int .i64 r] 24)) := (Below.refl _ _).alloc (Nat.le_refl _) _
  have c0 : (w.alloc (.cells #[.int .i64 t, .int .i64 r] 24)).cell? ⟨w.heap.size, 0, none⟩ = some (.int .i64 t) := by simp
  have c1 : (w.alloc (.cells #[.int .i64 t, .int .i64 r] 24)).cell? ⟨w.heap.size, 1, none⟩ = some (.int .i64 r) := by simp
  have H0 := Lib.hid (alive_true (w.alloc (.cells #[.int .i64 t, .int .i64 r] 24)) (hE.below hbA))
  have HO := Lib.hid h
  clear h hE
  go_enter Tryd.func6, Tryd.ntmps6
  go_wp2_with fail
  refine H0.out.mono ?_
  rintro e w1 ⟨rfl, hbx⟩
  have hb1 := hbA.trans (hbx.mono hbA.size)
  replace c0 := cell_keep hbx c0
  replace c1 := cell_keep hbx c1
  have H1 := Lib.hid (table_bad t r w1 HO.out)
  go_wp2_with fail
  refine H1.out.mono ?_
  rintro e w2 ⟨rfl, hbx⟩
  have hb2 := hb1.trans (hbx.mono hb1.size)
  replace c0 := cell_keep hbx c0
  replace c1 := cell_keep hbx c1
  have hbZ : Below w2.heap.size w2 (w2.alloc (.cells #[.int .i64 0, .int .i64 0] 24)) := (Below.refl _ _).alloc (Nat.le_refl _) _
  have hbZ' := hb2.trans (hbZ.mono hb2.size)
  have d0 : (w2.alloc (.cells #[.int .i64 0, .int .i64 0] 24)).cell? ⟨w2.heap.size, 0, none⟩ = some (.int .i64 0) := by simp
  have d1 : (w2.alloc (.cells #[.int .i64 0, .int .i64 0] 24)).cell? ⟨w2.heap.size, 1, none⟩ = some (.int .i64 0) := by simp
  replace c0 := cell_keep hbZ c0
  replace c1 := cell_keep hbZ c1
  have H2 := Lib.hid (shard_bad t r n (w2.alloc (.cells #[.int .i64 0, .int .i64 0] 24)) HO.out)
  go_wp2_with fail
  refine H2.out.mono ?_
  rintro e w3 ⟨rfl, hbx⟩
  have hb3 := hbZ'.trans (hbx.mono hbZ'.size)
  replace c0 := cell_keep hbx c0
  replace c1 := cell_keep hbx c1
  replace d0 := cell_keep hbx d0
  replace d1 := cell_keep hbx d1
  have H3 := Lib.hid (rtext_bad t r w3 HO.out)
  go_wp2_with fail
  refine H3.out.mono ?_
  rintro e w4 ⟨rfl, hbx⟩
  have hb4 := hb3.trans (hbx.mono hb3.size)
  replace c0 := cell_keep hbx c0
  replace c1 := cell_keep hbx c1
  replace d0 := cell_keep hbx d0
  replace d1 := cell_keep hbx d1
  have H4 := Lib.hid (rok_is t r false w4 HO.out)
  go_wp2_with fail
  refine H4.out.mono ?_
  rintro e w5 ⟨rfl, hbx⟩
  have hb5 := hb4.trans (hbx.mono hb4.size)
  replace c0 := cell_keep hbx c0
  replace c1 := cell_keep hbx c1
  replace d0 := cell_keep hbx d0
  replace d1 := cell_keep hbx d1
  have H5 := Lib.hid (ok_no t r w5 HO.out)
  go_wp2_with fail
  refine H5.out.mono ?_
  rintro e w6 ⟨rfl, hbx⟩
  have hb6 := hb5.trans (hbx.mono hb5.size)
  replace c0 := cell_keep hbx c0
  replace c1 := cell_keep hbx c1
  replace d0 := cell_keep hbx d0
  replace d1 := cell_keep hbx d1
  have hD0 := Lib.hid d0
  go_wp2_with (go_at_call 11; refine (code_is 1 _ (by decide) (by decide)).mono ?_; rintro e w' ⟨rfl, rfl⟩)
  all_goals (go_ret; exact ⟨retb (by simp [*]), hb6⟩)


set_option maxRecDepth 100000 in
set_option maxHeartbeats 2000000 in
theorem may_range (T R : Nat) (n : Int) (w : World) (hE : ErrT w) (hTW : TabW w) (hT : 1 ≤ T ∧ T ≤ 250) (hR : R ≤ 250) (hn : n < 1 ∨ 64 < n) :
    Calls Tryd.prog 6 #[.agg #[.int .i64 T, .int .i64 R], .int .i64 n] w fun e w' => e = .returned (.bool true) ∧ Below w.heap.size w w' := by
  have HN := Lib.hid hn
  by_cases h1 : n < 1
  · clear hn
    have hbA : Below w.heap.size w (w.alloc (.cells #[.int .i64 T, .int .i64 R] 24)) := (Below.refl _ _).alloc (Nat.le_refl _) _
    have c0 : (w.alloc (.cells #[.int .i64 T, .int .i64 R] 24)).cell? ⟨w.heap.size, 0, none⟩ = some (.int .i64 T) := by simp
    have c1 : (w.alloc (.cells #[.int .i64 T, .int .i64 R] 24)).cell? ⟨w.heap.size, 1, none⟩ = some (.int .i64 R) := by simp
    have HE := Lib.hid hE
    have HTW := Lib.hid hTW
    have H0 := Lib.hid (alive_true (w.alloc (.cells #[.int .i64 T, .int .i64 R] 24)) (hE.below hbA))
    have HT := Lib.hid hT
    have HR := Lib.hid hR
    have HO := Lib.hid (okR_nat hT hR)
    clear hE hTW hT hR
    go_enter Tryd.func6, Tryd.ntmps6
    go_wp2_with fail
    refine H0.out.mono ?_
    rintro e w1 ⟨rfl, hbx⟩
    have hb1 := hbA.trans (hbx.mono hbA.size)
    replace c0 := cell_keep hbx c0
    replace c1 := cell_keep hbx c1
    have H1 := Lib.hid (table_any T R w1 HT.out HR.out)
    go_wp2_with fail
    refine H1.out.mono ?_
    rintro e w2 ⟨rfl, hbx⟩
    have hb2 := hb1.trans (hbx.mono hb1.size)
    replace c0 := cell_keep hbx c0
    replace c1 := cell_keep hbx c1
    have hbZ : Below w2.heap.size w2 (w2.alloc (.cells #[.int .i64 T, .int .i64 0] 24)) := (Below.refl _ _).alloc (Nat.le_refl _) _
    have hbZ' := hb2.trans (hbZ.mono hb2.size)
    have d0 : (w2.alloc (.cells #[.int .i64 T, .int .i64 0] 24)).cell? ⟨w2.heap.size, 0, none⟩ = some (.int .i64 T) := by simp
    have d1 : (w2.alloc (.cells #[.int .i64 T, .int .i64 0] 24)).cell? ⟨w2.heap.size, 1, none⟩ = some (.int .i64 0) := by simp
    replace c0 := cell_keep hbZ c0
    replace c1 := cell_keep hbZ c1
    have H2 := Lib.hid (shard_range T R n (w2.alloc (.cells #[.int .i64 T, .int .i64 0] 24)) HO.out HN.out)
    go_wp2_with fail
    refine H2.out.mono ?_
    rintro e w3 ⟨rfl, hbx⟩
    have hb3 := hbZ'.trans (hbx.mono hbZ'.size)
    replace c0 := cell_keep hbx c0
    replace c1 := cell_keep hbx c1
    replace d0 := cell_keep hbx d0
    replace d1 := cell_keep hbx d1
    have H3 := Lib.hid (rtext_any T R w3 (HTW.out.below hb3) HT.out HR.out)
    go_wp2_with fail
    refine H3.out.mono ?_
    rintro e w4 ⟨rfl, hbx⟩
    have hb4 := hb3.trans (hbx.mono hb3.size)
    replace c0 := cell_keep hbx c0
    replace c1 := cell_keep hbx c1
    replace d0 := cell_keep hbx d0
    replace d1 := cell_keep hbx d1
    have H4 := Lib.hid (rok_is T R true w4 HO.out)
    go_wp2_with fail
    refine H4.out.mono ?_
    rintro e w5 ⟨rfl, hbx⟩
    have hb5 := hb4.trans (hbx.mono hb4.size)
    replace c0 := cell_keep hbx c0
    replace c1 := cell_keep hbx c1
    replace d0 := cell_keep hbx d0
    replace d1 := cell_keep hbx d1
    have H5 := Lib.hid (ok_yes T R w5 HO.out)
    go_wp2_with fail
    refine H5.out.mono ?_
    rintro e w6 ⟨rfl, hbx⟩
    have hb6 := hb5.trans (hbx.mono hb5.size)
    replace c0 := cell_keep hbx c0
    replace c1 := cell_keep hbx c1
    replace d0 := cell_keep hbx d0
    replace d1 := cell_keep hbx d1
    have H6 := Lib.hid (text_any T R w6 (by have := HT.out; omega) (by have := HR.out; omega))
    clear H0 H1 H2 H3 H4 H5
    generalize textB T R = tb at *
    go_wp2_with fail
    refine H6.out.mono ?_
    rintro e w7 ⟨rfl, hbx⟩
    have hb7 := hb6.trans (hbx.mono hb6.size)
    replace c0 := cell_keep hbx c0
    replace c1 := cell_keep hbx c1
    replace d0 := cell_keep hbx d0
    replace d1 := cell_keep hbx d1
    go_wp2_with (go_at_call 11; refine (code_is 2 _ (by decide) (by decide)).mono ?_; rintro e w' ⟨rfl, rfl⟩)
    all_goals (go_ret; exact ⟨retb (by simp [*]), hb7⟩)
  · have h2 : 64 < n := by omega
    clear hn
    have hbA : Below w.heap.size w (w.alloc (.cells #[.int .i64 T, .int .i64 R] 24)) := (Below.refl _ _).alloc (Nat.le_refl _) _
    have c0 : (w.alloc (.cells #[.int .i64 T, .int .i64 R] 24)).cell? ⟨w.heap.size, 0, none⟩ = some (.int .i64 T) := by simp
    have c1 : (w.alloc (.cells #[.int .i64 T, .int .i64 R] 24)).cell? ⟨w.heap.size, 1, none⟩ = some (.int .i64 R) := by simp
    have HE := Lib.hid hE
    have HTW := Lib.hid hTW
    have H0 := Lib.hid (alive_true (w.alloc (.cells #[.int .i64 T, .int .i64 R] 24)) (hE.below hbA))
    have HT := Lib.hid hT
    have HR := Lib.hid hR
    have HO := Lib.hid (okR_nat hT hR)
    clear hE hTW hT hR
    go_enter Tryd.func6, Tryd.ntmps6
    go_wp2_with fail
    refine H0.out.mono ?_
    rintro e w1 ⟨rfl, hbx⟩
    have hb1 := hbA.trans (hbx.mono hbA.size)
    replace c0 := cell_keep hbx c0
    replace c1 := cell_keep hbx c1
    have H1 := Lib.hid (table_any T R w1 HT.out HR.out)
    go_wp2_with fail
    refine H1.out.mono ?_
    rintro e w2 ⟨rfl, hbx⟩
    have hb2 := hb1.trans (hbx.mono hb1.size)
    replace c0 := cell_keep hbx c0
    replace c1 := cell_keep hbx c1
    have hbZ : Below w2.heap.size w2 (w2.alloc (.cells #[.int .i64 T, .int .i64 0] 24)) := (Below.refl _ _).alloc (Nat.le_refl _) _
    have hbZ' := hb2.trans (hbZ.mono hb2.size)
    have d0 : (w2.alloc (.cells #[.int .i64 T, .int .i64 0] 24)).cell? ⟨w2.heap.size, 0, none⟩ = some (.int .i64 T) := by simp
    have d1 : (w2.alloc (.cells #[.int .i64 T, .int .i64 0] 24)).cell? ⟨w2.heap.size, 1, none⟩ = some (.int .i64 0) := by simp
    replace c0 := cell_keep hbZ c0
    replace c1 := cell_keep hbZ c1
    have H2 := Lib.hid (shard_range T R n (w2.alloc (.cells #[.int .i64 T, .int .i64 0] 24)) HO.out HN.out)
    go_wp2_with fail
    refine H2.out.mono ?_
    rintro e w3 ⟨rfl, hbx⟩
    have hb3 := hbZ'.trans (hbx.mono hbZ'.size)
    replace c0 := cell_keep hbx c0
    replace c1 := cell_keep hbx c1
    replace d0 := cell_keep hbx d0
    replace d1 := cell_keep hbx d1
    have H3 := Lib.hid (rtext_any T R w3 (HTW.out.below hb3) HT.out HR.out)
    go_wp2_with fail
    refine H3.out.mono ?_
    rintro e w4 ⟨rfl, hbx⟩
    have hb4 := hb3.trans (hbx.mono hb3.size)
    replace c0 := cell_keep hbx c0
    replace c1 := cell_keep hbx c1
    replace d0 := cell_keep hbx d0
    replace d1 := cell_keep hbx d1
    have H4 := Lib.hid (rok_is T R true w4 HO.out)
    go_wp2_with fail
    refine H4.out.mono ?_
    rintro e w5 ⟨rfl, hbx⟩
    have hb5 := hb4.trans (hbx.mono hb4.size)
    replace c0 := cell_keep hbx c0
    replace c1 := cell_keep hbx c1
    replace d0 := cell_keep hbx d0
    replace d1 := cell_keep hbx d1
    have H5 := Lib.hid (ok_yes T R w5 HO.out)
    go_wp2_with fail
    refine H5.out.mono ?_
    rintro e w6 ⟨rfl, hbx⟩
    have hb6 := hb5.trans (hbx.mono hb5.size)
    replace c0 := cell_keep hbx c0
    replace c1 := cell_keep hbx c1
    replace d0 := cell_keep hbx d0
    replace d1 := cell_keep hbx d1
    have H6 := Lib.hid (text_any T R w6 (by have := HT.out; omega) (by have := HR.out; omega))
    clear H0 H1 H2 H3 H4 H5
    generalize textB T R = tb at *
    go_wp2_with fail
    refine H6.out.mono ?_
    rintro e w7 ⟨rfl, hbx⟩
    have hb7 := hb6.trans (hbx.mono hb6.size)
    replace c0 := cell_keep hbx c0
    replace c1 := cell_keep hbx c1
    replace d0 := cell_keep hbx d0
    replace d1 := cell_keep hbx d1
    go_wp2_with (go_at_call 11; refine (code_is 2 _ (by decide) (by decide)).mono ?_; rintro e w' ⟨rfl, rfl⟩)
    all_goals (go_ret; exact ⟨retb (by simp [*]), hb7⟩)

set_option maxRecDepth 100000 in
set_option maxHeartbeats 2000000 in
theorem may_good (T R M : Nat) (w : World) (hE : ErrT w) (hTW : TabW w) (hT : 1 ≤ T ∧ T ≤ 250) (hR : R ≤ 250) (hM : 1 ≤ M ∧ M ≤ 64) :
    Calls Tryd.prog 6 #[.agg #[.int .i64 T, .int .i64 R], .int .i64 M] w fun e w' => e = .returned (.bool true) ∧ Below w.heap.size w w' := by
  have HM := Lib.hid hM
  have n1 : ¬ (M : Int) < 1 := by omega
  have n2 : ¬ 64 < (M : Int) := by omega
  clear hM
  have hbA : Below w.heap.size w (w.alloc (.cells #[.int .i64 T, .int .i64 R] 24)) := (Below.refl _ _).alloc (Nat.le_refl _) _
  have c0 : (w.alloc (.cells #[.int .i64 T, .int .i64 R] 24)).cell? ⟨w.heap.size, 0, none⟩ = some (.int .i64 T) := by simp
  have c1 : (w.alloc (.cells #[.int .i64 T, .int .i64 R] 24)).cell? ⟨w.heap.size, 1, none⟩ = some (.int .i64 R) := by simp
  have HE := Lib.hid hE
  have HTW := Lib.hid hTW
  have H0 := Lib.hid (alive_true (w.alloc (.cells #[.int .i64 T, .int .i64 R] 24)) (hE.below hbA))
  have HT := Lib.hid hT
  have HR := Lib.hid hR
  have HO := Lib.hid (okR_nat hT hR)
  clear hE hTW hT hR
  go_enter Tryd.func6, Tryd.ntmps6
  go_wp2_with fail
  refine H0.out.mono ?_
  rintro e w1 ⟨rfl, hbx⟩
  have hb1 := hbA.trans (hbx.mono hbA.size)
  replace c0 := cell_keep hbx c0
  replace c1 := cell_keep hbx c1
  have H1 := Lib.hid (table_any T R w1 HT.out HR.out)
  go_wp2_with fail
  refine H1.out.mono ?_
  rintro e w2 ⟨rfl, hbx⟩
  have hb2 := hb1.trans (hbx.mono hb1.size)
  replace c0 := cell_keep hbx c0
  replace c1 := cell_keep hbx c1
  have hbZ : Below w2.heap.size w2 (w2.alloc (.cells #[.int .i64 T, .int .i64 0] 24)) := (Below.refl _ _).alloc (Nat.le_refl _) _
  have hbZ' := hb2.trans (hbZ.mono hb2.size)
  have d0 : (w2.alloc (.cells #[.int .i64 T, .int .i64 0] 24)).cell? ⟨w2.heap.size, 0, none⟩ = some (.int .i64 T) := by simp
  have d1 : (w2.alloc (.cells #[.int .i64 T, .int .i64 0] 24)).cell? ⟨w2.heap.size, 1, none⟩ = some (.int .i64 0) := by simp
  replace c0 := cell_keep hbZ c0
  replace c1 := cell_keep hbZ c1
  have H2 := Lib.hid (shard_cnt T R M (w2.alloc (.cells #[.int .i64 T, .int .i64 0] 24)) HO.out HT.out.1 HM.out)
  go_wp2_with fail
  refine H2.out.mono ?_
  rintro e w3 ⟨rfl, hbx⟩
  have hb3 := hbZ'.trans (hbx.mono hbZ'.size)
  replace c0 := cell_keep hbx c0
  replace c1 := cell_keep hbx c1
  replace d0 := cell_keep hbx d0
  replace d1 := cell_keep hbx d1
  have H3 := Lib.hid (rtext_any T R w3 (HTW.out.below hb3) HT.out HR.out)
  go_wp2_with fail
  refine H3.out.mono ?_
  rintro e w4 ⟨rfl, hbx⟩
  have hb4 := hb3.trans (hbx.mono hb3.size)
  replace c0 := cell_keep hbx c0
  replace c1 := cell_keep hbx c1
  replace d0 := cell_keep hbx d0
  replace d1 := cell_keep hbx d1
  have H4 := Lib.hid (rok_is T R true w4 HO.out)
  go_wp2_with fail
  refine H4.out.mono ?_
  rintro e w5 ⟨rfl, hbx⟩
  have hb5 := hb4.trans (hbx.mono hb4.size)
  replace c0 := cell_keep hbx c0
  replace c1 := cell_keep hbx c1
  replace d0 := cell_keep hbx d0
  replace d1 := cell_keep hbx d1
  have H5 := Lib.hid (ok_yes T R w5 HO.out)
  go_wp2_with fail
  refine H5.out.mono ?_
  rintro e w6 ⟨rfl, hbx⟩
  have hb6 := hb5.trans (hbx.mono hb5.size)
  replace c0 := cell_keep hbx c0
  replace c1 := cell_keep hbx c1
  replace d0 := cell_keep hbx d0
  replace d1 := cell_keep hbx d1
  have H6 := Lib.hid (text_any T R w6 (by have := HT.out; omega) (by have := HR.out; omega))
  clear H0 H1 H2 H3 H4 H5
  generalize textB T R = tb at *
  go_wp2_with fail
  refine H6.out.mono ?_
  rintro e w7 ⟨rfl, hbx⟩
  have hb7 := hb6.trans (hbx.mono hb6.size)
  replace c0 := cell_keep hbx c0
  replace c1 := cell_keep hbx c1
  replace d0 := cell_keep hbx d0
  replace d1 := cell_keep hbx d1
  have H7 := Lib.hid (rshard_any T M R w7 HT.out.2 HM.out)
  generalize cnt T M = K at *
  go_wp2_with fail
  refine H7.out.mono ?_
  rintro e w8 ⟨rfl, hbx⟩
  have hb8 := hb7.trans (hbx.mono hb7.size)
  replace c0 := cell_keep hbx c0
  replace c1 := cell_keep hbx c1
  replace d0 := cell_keep hbx d0
  replace d1 := cell_keep hbx d1
  go_wp2
  all_goals (go_ret; exact ⟨retb (by simp [*]), hb8⟩)

theorem may_true (t r n : Int) (w : World) (hE : ErrT w) (hTW : TabW w) :
    Calls Tryd.prog 6 #[.agg #[.int .i64 t, .int .i64 r], .int .i64 n] w fun e w' => e = .returned (.bool true) ∧ Below w.heap.size w w' := by
  cases h : okR t r with
  | false => exact may_bad t r n w hE h
  | true =>
    unfold okR at h
    simp at h
    obtain ⟨T, rfl⟩ := Int.eq_ofNat_of_zero_le (show 0 ≤ t by omega)
    obtain ⟨R, rfl⟩ := Int.eq_ofNat_of_zero_le (show 0 ≤ r by omega)
    by_cases hn : n < 1 ∨ 64 < n
    · exact may_range T R n w hE hTW (by omega) (by omega) hn
    · obtain ⟨M, rfl⟩ := Int.eq_ofNat_of_zero_le (show 0 ≤ n by omega)
      exact may_good T R M w hE hTW (by omega) (by omega) (by omega)
end Go.Proofs.YtonphamahnagfaaDoor

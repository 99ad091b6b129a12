/-
  catchboltlaw02.ResOnly: unlike resources have unlike texts, and those of one table, and they alone, have texts that begin alike up to the dot: cases. The condition: the listed variables read as the program's text lays them.
-/
import Derived.Test.YtonphamahnagfaaDoorResO
import Derived.BigRegion
namespace Go.Proofs.YtonphamahnagfaaDoor
open Go.ChangeShapes Go.WideShapes Go.ChangeAt Go.RowKit
set_option linter.unusedVariables false



set_option maxRecDepth 100000 in
set_option maxHeartbeats 3000000 in
theorem only_5 (a0 a1 b0 b1 : Int) (T R S Q : Nat) (w : World) (hE : ErrT w) (hTW : TabW w) (ha0 : 0 ≤ a0 ∧ a0 < 256) (ha1 : 0 ≤ a1 ∧ a1 < 256) (hb0 : 0 ≤ b0 ∧ b0 < 256) (hb1 : 0 ≤ b1 ∧ b1 < 256) (hT : 1 + a0 % 250 = T) (hR : a1 % 251 = R) (hS : 1 + b0 % 250 = S) (hQ : b1 % 251 = Q)
    (hC1 : ¬ T = S) (hC2 : (textB T 0).size < (textB S Q).size) (hC3 : (((textB S Q).extract 0 (textB T 0).size).toList == (textB T 0).toList) = true) :
    Calls Tryd.prog 4 #[.agg #[.int .u8 a0, .int .u8 a1], .agg #[.int .u8 b0, .int .u8 b1]] w fun e w' => e = .returned (.bool true) ∧ Below w.heap.size w w' := by
  have HA := Lib.hid (fun W (h : ErrT W) => alive_true W h)
  have HE := Lib.hid hE
  have HTW := Lib.hid hTW
  have HC1 := Lib.hid hC1
  have HC2 := Lib.hid hC2
  have HC3 := Lib.hid hC3
  clear hC1 hC2 hC3
  have hT1 : 1 ≤ T := by omega
  have hT2 : T ≤ 250 := by omega
  have hR2 : R ≤ 250 := by omega
  have hS1 : 1 ≤ S := by omega
  have hS2 : S ≤ 250 := by omega
  have hQ2 : Q ≤ 250 := by omega
  obtain ⟨a00, a01⟩ := ha0
  obtain ⟨a10, a11⟩ := ha1
  obtain ⟨b00, b01⟩ := hb0
  obtain ⟨b10, b11⟩ := hb1
  clear hE hTW
  go_enter Tryd.func4, Tryd.ntmps4
  have hbA : Below w.heap.size w ((w.alloc (.cells #[.int .u8 a0, .int .u8 a1] 33)).alloc (.cells #[.int .u8 b0, .int .u8 b1] 33)) := ((Below.refl _ _).alloc (Nat.le_refl _) _).alloc (by simp) _
  go_wp2_with fail
  refine (HA.out _ (HE.out.below hbA)).mono ?_
  rintro e w1 ⟨rfl, hb1⟩
  have p0 : w1.cell? ⟨w.heap.size, 0, none⟩ = some (.int .u8 a0) := cell_keep hb1 (by simp)
  have p1 : w1.cell? ⟨w.heap.size, 1, none⟩ = some (.int .u8 a1) := cell_keep hb1 (by simp)
  have q0 : w1.cell? ⟨w.heap.size + 1, 0, none⟩ = some (.int .u8 b0) := cell_keep hb1 (by simp)
  have q1 : w1.cell? ⟨w.heap.size + 1, 1, none⟩ = some (.int .u8 b1) := cell_keep hb1 (by simp)
  have hb1' := hbA.trans (hb1.mono hbA.size)
  have wa0 : IntKind.i64.wrap a0 = a0 := i64_keep (by omega)
  have wa1 : IntKind.i64.wrap a1 = a1 := i64_keep (by omega)
  have wb0 : IntKind.i64.wrap b0 = b0 := i64_keep (by omega)
  have wb1 : IntKind.i64.wrap b1 = b1 := i64_keep (by omega)
  have ta0 : IntKind.i64.wrap (a0.tmod 250) = a0 % 250 := by rw [Int.tmod_eq_emod_of_nonneg a00]; exact i64_keep (by omega)
  have ta1 : IntKind.i64.wrap (a1.tmod 251) = R := by rw [Int.tmod_eq_emod_of_nonneg a10, hR]; exact i64_keep (by omega)
  have tb0 : IntKind.i64.wrap (b0.tmod 250) = b0 % 250 := by rw [Int.tmod_eq_emod_of_nonneg b00]; exact i64_keep (by omega)
  have tb1 : IntKind.i64.wrap (b1.tmod 251) = Q := by rw [Int.tmod_eq_emod_of_nonneg b10, hQ]; exact i64_keep (by omega)
  have sT : IntKind.i64.wrap (1 + a0 % 250) = T := by rw [hT]; exact i64_keep (by omega)
  have sS : IntKind.i64.wrap (1 + b0 % 250) = S := by rw [hS]; exact i64_keep (by omega)
  have hsz1 : w.heap.size + 2 ≤ w1.heap.size := by have := hb1.size; simp at this; omega
  have n0 : ¬ w.heap.size = w1.heap.size := by omega
  have n1 : ¬ w.heap.size + 1 = w1.heap.size := by omega
  have n2 : ¬ w.heap.size = w1.heap.size + 1 := by omega
  have l0 : w.heap.size < w1.heap.size := by omega
  have l1 : w.heap.size + 1 < w1.heap.size := by omega
  have l2 : w.heap.size < w1.heap.size + 1 := by omega
  have l3 : w.heap.size + 1 < w1.heap.size + 1 := by omega
  clear hb1 hbA
  have HX := Lib.hid (rtext_any T R)
  have HY := Lib.hid (rtext_any S Q)
  have HU := Lib.hid (rtext_any T 0)
  have HLX := Lib.hid (textB_size T R)
  have hLY := textB_size S Q
  have hLU := textB_size T 0
  go_wp2_with fail
  go_region
  · have hc5 : (((w1.alloc (.cells #[.int .i64 T, .int .i64 R] 24)).alloc (.cells #[.int .i64 S, .int .i64 Q] 24)).drew).cell? ⟨w1.heap.size, 0, none⟩ = some (.int .i64 T) := by simp
    have hc6 : (((w1.alloc (.cells #[.int .i64 T, .int .i64 R] 24)).alloc (.cells #[.int .i64 S, .int .i64 Q] 24)).drew).cell? ⟨w1.heap.size, 1, none⟩ = some (.int .i64 R) := by simp
    have hc7 : (((w1.alloc (.cells #[.int .i64 T, .int .i64 R] 24)).alloc (.cells #[.int .i64 S, .int .i64 Q] 24)).drew).cell? ⟨w1.heap.size + 1, 0, none⟩ = some (.int .i64 S) := by simp
    have hc8 : (((w1.alloc (.cells #[.int .i64 T, .int .i64 R] 24)).alloc (.cells #[.int .i64 S, .int .i64 Q] 24)).drew).cell? ⟨w1.heap.size + 1, 1, none⟩ = some (.int .i64 Q) := by simp
    have hbW : Below w.heap.size w (((w1.alloc (.cells #[.int .i64 T, .int .i64 R] 24)).alloc (.cells #[.int .i64 S, .int .i64 Q] 24)).drew) := ((hb1'.alloc (by omega) _).alloc (by simp; omega) _).drew
    generalize (((w1.alloc (.cells #[.int .i64 T, .int .i64 R] 24)).alloc (.cells #[.int .i64 S, .int .i64 Q] 24)).drew) = W at *
    have H5 := Lib.hid hc5
    have H6 := Lib.hid hc6
    have H7 := Lib.hid hc7
    have H8 := Lib.hid hc8
    clear hT hR hS hQ p0 p1 q0 q1 wa0 wa1 wb0 wb1 ta0 ta1 tb0 tb1 sT sS n0 n1 n2 l0 l1 l2 l3 a00 a01 a10 a11 b00 b01 b10 b11 hc7 hc8
    go_wp2_with fail
    refine (HX.out W (HTW.out.below hbW) ⟨hT1, hT2⟩ hR2).mono ?_
    rintro e w2 ⟨rfl, hb2⟩
    have hq2 := hb2
    have hb2' := hbW.trans (hb2.mono hbW.size)
    clear hc5 hc6
    have hc7 := cell_keep hq2 H7.out
    have hc8 := cell_keep hq2 H8.out
    go_wp2_with fail
    refine (HY.out w2 (HTW.out.below hb2') ⟨hS1, hS2⟩ hQ2).mono ?_
    rintro e w3 ⟨rfl, hb3⟩
    have hq3 := hq2.trans (hb3.mono hq2.size)
    have hb3' := hb2'.trans (hb3.mono hb2'.size)
    clear hc7 hc8
    have hc5 := cell_keep hq3 H5.out
    have hc6 := cell_keep hq3 H6.out
    go_wp2_with fail
    refine (HU.out w3 (HTW.out.below hb3') ⟨hT1, hT2⟩ (by omega)).mono ?_
    rintro e w4 ⟨rfl, hb4⟩
    have hq4 := hq3.trans (hb4.mono hq3.size)
    have hb4' := hb3'.trans (hb4.mono hb3'.size)
    clear hc5 hc6
    have hc5 := cell_keep hq4 H5.out
    have hc6 := cell_keep hq4 H6.out
    have hc7 := cell_keep hq4 H7.out
    have hc8 := cell_keep hq4 H8.out
    have hXl := textB_list T R
    have hYl := textB_list S Q
    have hUl := textB_list T 0
    have HLX' := HLX.out
    generalize textB T R = X at *
    generalize textB S Q = Y at *
    generalize textB T 0 = U at *
    have HXl := Lib.hid hXl
    have HYl := Lib.hid hYl
    have HUl := Lib.hid hUl
    clear hXl hYl hUl HX HY HU H5 H6 H7 H8 HLX hb2 hb3 hb4 hq2 hq3 hq4 hb2' hb3' hbW
    have hTS := HC1.out
    have hlen := HC2.out
    have hpre := HC3.out
    have hTS' : ¬ (T : Int) = S := by omega
    have hTSb : ((T : Int) == (S : Int)) = false := beq_false_of_ne hTS'
    have hxy : (X.toList == Y.toList) = false := by
      rw [HYl.out, HXl.out]
      exact beq_false_of_ne fun h => hTS (text_inj ⟨hT1, hT2⟩ hR2 ⟨hS1, hS2⟩ (by omega) h).1
    have hyu : (Y.toList == U.toList) = false := by
      rw [HYl.out, HUl.out]
      exact beq_false_of_ne fun h => hTS (text_inj ⟨hS1, hS2⟩ hQ2 ⟨hT1, hT2⟩ (by omega) h).1.symm
    clear HC1 HC2 HC3
    have hlen' : (U.size : Int) < Y.size := by omega
    obtain ⟨c, hc⟩ : ∃ c, Y[U.size] = c := ⟨_, rfl⟩
    have hc46 : c ≠ 46 := by
      intro h46
      subst h46
      rw [ext_take, ByteArray.toList_eq] at hpre
      have h1 := of_get hlen hc
      refine no_dot (t := S) (r := Q) (u := T) (k := Y.data.toList.drop (U.size + 1)) ⟨hS1, hS2⟩ hQ2 ⟨hT1, hT2⟩ hTS ?_
      rw [← HYl.out, ← HUl.out, ByteArray.toList_eq, ByteArray.toList_eq, ← beq_iff.1 hpre]
      have h2 := drop_at h1
      rw [← h2, List.take_append_drop]
    have hcc : ¬ (c.toNat : Int) = 46 := by
      have : c.toNat ≠ 46 := fun h => hc46 (by have := UInt8.ofNat_toNat (x := c); rw [h] at this; exact this.symm)
      omega
    have hcn : ¬ c.toNat = 46 := by omega
    go_wp2
    go_ret
    refine ⟨?_, hb4'⟩
    simp
    exact hcc
  · have hc5 : (((w1.alloc (.cells #[.int .i64 S, .int .i64 Q] 24)).alloc (.cells #[.int .i64 T, .int .i64 R] 24)).drew).cell? ⟨w1.heap.size + 1, 0, none⟩ = some (.int .i64 T) := by simp
    have hc6 : (((w1.alloc (.cells #[.int .i64 S, .int .i64 Q] 24)).alloc (.cells #[.int .i64 T, .int .i64 R] 24)).drew).cell? ⟨w1.heap.size + 1, 1, none⟩ = some (.int .i64 R) := by simp
    have hc7 : (((w1.alloc (.cells #[.int .i64 S, .int .i64 Q] 24)).alloc (.cells #[.int .i64 T, .int .i64 R] 24)).drew).cell? ⟨w1.heap.size, 0, none⟩ = some (.int .i64 S) := by simp
    have hc8 : (((w1.alloc (.cells #[.int .i64 S, .int .i64 Q] 24)).alloc (.cells #[.int .i64 T, .int .i64 R] 24)).drew).cell? ⟨w1.heap.size, 1, none⟩ = some (.int .i64 Q) := by simp
    have hbW : Below w.heap.size w (((w1.alloc (.cells #[.int .i64 S, .int .i64 Q] 24)).alloc (.cells #[.int .i64 T, .int .i64 R] 24)).drew) := ((hb1'.alloc (by omega) _).alloc (by simp; omega) _).drew
    generalize (((w1.alloc (.cells #[.int .i64 S, .int .i64 Q] 24)).alloc (.cells #[.int .i64 T, .int .i64 R] 24)).drew) = W at *
    have H5 := Lib.hid hc5
    have H6 := Lib.hid hc6
    have H7 := Lib.hid hc7
    have H8 := Lib.hid hc8
    clear hT hR hS hQ p0 p1 q0 q1 wa0 wa1 wb0 wb1 ta0 ta1 tb0 tb1 sT sS n0 n1 n2 l0 l1 l2 l3 a00 a01 a10 a11 b00 b01 b10 b11 hc7 hc8
    go_wp2_with fail
    refine (HX.out W (HTW.out.below hbW) ⟨hT1, hT2⟩ hR2).mono ?_
    rintro e w2 ⟨rfl, hb2⟩
    have hq2 := hb2
    have hb2' := hbW.trans (hb2.mono hbW.size)
    clear hc5 hc6
    have hc7 := cell_keep hq2 H7.out
    have hc8 := cell_keep hq2 H8.out
    go_wp2_with fail
    refine (HY.out w2 (HTW.out.below hb2') ⟨hS1, hS2⟩ hQ2).mono ?_
    rintro e w3 ⟨rfl, hb3⟩
    have hq3 := hq2.trans (hb3.mono hq2.size)
    have hb3' := hb2'.trans (hb3.mono hb2'.size)
    clear hc7 hc8
    have hc5 := cell_keep hq3 H5.out
    have hc6 := cell_keep hq3 H6.out
    go_wp2_with fail
    refine (HU.out w3 (HTW.out.below hb3') ⟨hT1, hT2⟩ (by omega)).mono ?_
    rintro e w4 ⟨rfl, hb4⟩
    have hq4 := hq3.trans (hb4.mono hq3.size)
    have hb4' := hb3'.trans (hb4.mono hb3'.size)
    clear hc5 hc6
    have hc5 := cell_keep hq4 H5.out
    have hc6 := cell_keep hq4 H6.out
    have hc7 := cell_keep hq4 H7.out
    have hc8 := cell_keep hq4 H8.out
    have hXl := textB_list T R
    have hYl := textB_list S Q
    have hUl := textB_list T 0
    have HLX' := HLX.out
    generalize textB T R = X at *
    generalize textB S Q = Y at *
    generalize textB T 0 = U at *
    have HXl := Lib.hid hXl
    have HYl := Lib.hid hYl
    have HUl := Lib.hid hUl
    clear hXl hYl hUl HX HY HU H5 H6 H7 H8 HLX hb2 hb3 hb4 hq2 hq3 hq4 hb2' hb3' hbW
    have hTS := HC1.out
    have hlen := HC2.out
    have hpre := HC3.out
    have hTS' : ¬ (T : Int) = S := by omega
    have hTSb : ((T : Int) == (S : Int)) = false := beq_false_of_ne hTS'
    have hxy : (X.toList == Y.toList) = false := by
      rw [HYl.out, HXl.out]
      exact beq_false_of_ne fun h => hTS (text_inj ⟨hT1, hT2⟩ hR2 ⟨hS1, hS2⟩ (by omega) h).1
    have hyu : (Y.toList == U.toList) = false := by
      rw [HYl.out, HUl.out]
      exact beq_false_of_ne fun h => hTS (text_inj ⟨hS1, hS2⟩ hQ2 ⟨hT1, hT2⟩ (by omega) h).1.symm
    clear HC1 HC2 HC3
    have hlen' : (U.size : Int) < Y.size := by omega
    obtain ⟨c, hc⟩ : ∃ c, Y[U.size] = c := ⟨_, rfl⟩
    have hc46 : c ≠ 46 := by
      intro h46
      subst h46
      rw [ext_take, ByteArray.toList_eq] at hpre
      have h1 := of_get hlen hc
      refine no_dot (t := S) (r := Q) (u := T) (k := Y.data.toList.drop (U.size + 1)) ⟨hS1, hS2⟩ hQ2 ⟨hT1, hT2⟩ hTS ?_
      rw [← HYl.out, ← HUl.out, ByteArray.toList_eq, ByteArray.toList_eq, ← beq_iff.1 hpre]
      have h2 := drop_at h1
      rw [← h2, List.take_append_drop]
    have hcc : ¬ (c.toNat : Int) = 46 := by
      have : c.toNat ≠ 46 := fun h => hc46 (by have := UInt8.ofNat_toNat (x := c); rw [h] at this; exact this.symm)
      omega
    have hcn : ¬ c.toNat = 46 := by omega
    go_wp2
    go_ret
    refine ⟨?_, hb4'⟩
    simp
    exact hcc
end Go.Proofs.YtonphamahnagfaaDoor

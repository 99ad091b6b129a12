/-
  catchboltlaw02.ResBack: a text that is read is the text of what was read, each resource's text is read, and a row and its table have one shard. The condition: the listed variables read as the program's text lays them.
-/
import Derived.Test.YtonphamahnagfaaDoorResV
namespace Go.Proofs.YtonphamahnagfaaDoor
open Go.ChangeShapes Go.WideShapes Go.ChangeAt Go.RowKit
set_option linter.unusedVariables false

theorem textB_list (t r : Nat) : (textB t r).toList = textL t r := by rw [ByteArray.toList_eq]; rfl
theorem textB_data (t r : Nat) : (textB t r).data.toList = textL t r := rfl
theorem text_len (t r : Nat) : (textL t r).length ≤ 7 := by
  unfold textL
  have := dig_len t
  have := dig_len r
  split <;> simp <;> omega
theorem textB_size (t r : Nat) : (textB t r).size ≤ 7 := by
  have := text_len t r
  show (textL t r).toArray.size ≤ 7
  simpa using this
/-- what is read is a resource, and the text is its text -/
theorem readL_is {L : List UInt8} {t r : Nat} (h : readL L = .inl (t, r)) : 1 ≤ t ∧ t ≤ 250 ∧ r ≤ 250 ∧ textL t r = L := by
  unfold readL at h
  cases hs : run (.tab 0) L with
  | none => rw [hs] at h; cases h
  | some s =>
    rw [hs] at h
    rcases run_is L s hs with ⟨n, rfl, h1, h2⟩ | ⟨n, m, rfl, h1, h2, h3, h4⟩
    · simp only at h
      by_cases h0 : n = 0
      · rw [if_pos h0] at h; cases h
      · rw [if_neg h0] at h h1
        simp at h
        obtain ⟨rfl, rfl⟩ := h
        exact ⟨by omega, h2, by omega, by unfold textL; rw [if_pos rfl]; exact h1.symm⟩
    · simp only at h
      by_cases h0 : m = 0
      · rw [if_pos h0] at h; cases h
      · rw [if_neg h0] at h h4
        simp at h
        obtain ⟨rfl, rfl⟩ := h
        exact ⟨h1, h2, h3, by unfold textL; rw [if_neg h0]; exact h4.symm⟩


set_option maxRecDepth 100000 in
set_option maxHeartbeats 2000000 in
theorem resback_true (s : ByteArray) (a1 a2 a3 : Int) (w : World) (hE : ErrT w) (hTW : TabW w) (h1 : 0 ≤ a1 ∧ a1 < 256) (h2 : 0 ≤ a2 ∧ a2 < 256) (h3 : 0 ≤ a3 ∧ a3 < 256) (hs : s.size ≤ 140737488355328) :
    Calls Tryd.prog 5 #[.string s, .int .u8 a1, .int .u8 a2, .int .u8 a3] w fun e w' => e = .returned (.bool true) ∧ Below w.heap.size w w' := by
  have HA := Lib.hid (alive_true w hE)
  have HE := Lib.hid hE
  have HTW := Lib.hid hTW
  obtain ⟨T, hT⟩ := Int.eq_ofNat_of_zero_le (show 0 ≤ 1 + a1 % 250 by omega)
  obtain ⟨R, hR⟩ := Int.eq_ofNat_of_zero_le (show 0 ≤ a2 % 251 by omega)
  obtain ⟨M, hM⟩ := Int.eq_ofNat_of_zero_le (show 0 ≤ 1 + a3 % 64 by omega)
  have hT1 : 1 ≤ T := by omega
  have hT2 : T ≤ 250 := by omega
  have hR2 : R ≤ 250 := by omega
  have hM1 : 1 ≤ M := by omega
  have hM2 : M ≤ 64 := by omega
  obtain ⟨a10, a11⟩ := h1
  obtain ⟨a20, a21⟩ := h2
  obtain ⟨a30, a31⟩ := h3
  clear hE hTW
  go_enter Tryd.func5, Tryd.ntmps5
  go_wp2_with fail
  refine HA.out.mono ?_
  rintro e w1 ⟨rfl, hb1⟩
  have HP := Lib.hid (parse_any s w1 (HE.out.below hb1) hs)
  go_wp2_with fail
  refine HP.out.mono ?_
  rintro e w2 ⟨hR2', hb2⟩
  have hb2' := hb1.trans (hb2.mono hb1.size)
  rw [parse_eq] at hR2'
  clear HP
  cases hr : readL s.data.toList with
  | inr i =>
    rw [hr] at hR2'
    obtain ⟨g, rfl, hF2⟩ := hR2'
    have hbZ : Below w2.heap.size w2 (w2.alloc (.cells #[.int .i64 0, .int .i64 0] 24)) := (Below.refl _ _).alloc (Nat.le_refl _) _
    have hbZ' := hb2'.trans (hbZ.mono hb2'.size)
    go_wp2_with fail
    generalize hwx : w2.alloc (.cells #[.int .i64 0, .int .i64 0] 24) = wx at *
    have hsz : wx.heap.size = w2.heap.size + 1 := by rw [← hwx]; simp
    rw [← hsz]
    clear hsz hwx hbZ hF2
    have hsX := hbZ'.size
    have hbA : Below wx.heap.size wx (wx.alloc (.cells #[.int .i64 T, .int .i64 R] 24)) := (Below.refl _ _).alloc (Nat.le_refl _) _
    have hbA' := hbZ'.trans (hbA.mono hsX)
    have z0 : (wx.alloc (.cells #[.int .i64 T, .int .i64 R] 24)).cell? ⟨wx.heap.size, 0, none⟩ = some (.int .i64 T) := by simp
    have z1 : (wx.alloc (.cells #[.int .i64 T, .int .i64 R] 24)).cell? ⟨wx.heap.size, 1, none⟩ = some (.int .i64 R) := by simp
    have Z0 := Lib.hid z0
    have Z1 := Lib.hid z1
    clear z0 z1
    have H4 := Lib.hid (rtext_any T R (wx.alloc (.cells #[.int .i64 T, .int .i64 R] 24)) (HTW.out.below hbA') ⟨hT1, hT2⟩ hR2)
    skip
    refine H4.out.mono ?_
    rintro e w4 ⟨rfl, hb4⟩
    have hb4' := hbA'.trans (hb4.mono hbA'.size)
    have hq4 := hb4
    have H5 := Lib.hid (parse_any (textB T R) w4 (HE.out.below hb4') (by have := textB_size T R; omega))
    clear H4
    generalize hTB : textB T R = tb at *
    have HTB := Lib.hid hTB
    clear hTB
    go_wp2_with fail
    refine H5.out.mono ?_
    rintro e w5 ⟨hR5, hb5⟩
    rw [parse_eq, ← HTB.out, textB_data, readL_text ⟨hT1, hT2⟩ hR2 rfl] at hR5
    have he5 : e = .returned (.tuple #[.agg #[.int .i64 T, .int .i64 R], .nilIface]) := hR5
    subst he5
    have hb5' := hb4'.trans (hb5.mono hb4'.size)
    have hq5 := hq4.trans (hb5.mono hq4.size)
    have hbB : Below w5.heap.size w5 (w5.alloc (.cells #[.int .i64 T, .int .i64 R] 24)) := (Below.refl _ _).alloc (Nat.le_refl _) _
    have hbB' := hb5'.trans (hbB.mono hb5'.size)
    have hqB := hq5.trans (hbB.mono hq5.size)
    have y0 : (w5.alloc (.cells #[.int .i64 T, .int .i64 R] 24)).cell? ⟨w5.heap.size, 0, none⟩ = some (.int .i64 T) := by simp
    have y1 : (w5.alloc (.cells #[.int .i64 T, .int .i64 R] 24)).cell? ⟨w5.heap.size, 1, none⟩ = some (.int .i64 R) := by simp
    have Y0 := Lib.hid y0
    have Y1 := Lib.hid y1
    clear y0 y1
    have x0 := cell_keep hqB Z0.out
    have x1 := cell_keep hqB Z1.out
    have H6 := Lib.hid (table_any T R (w5.alloc (.cells #[.int .i64 T, .int .i64 R] 24)) ⟨hT1, hT2⟩ hR2)
    clear H5
    go_wp2_with fail
    refine H6.out.mono ?_
    rintro e w6 ⟨rfl, hb6⟩
    have hb6' := hbB'.trans (hb6.mono hbB'.size)
    have hq6 := hqB.trans (hb6.mono hqB.size)
    have hy6 := hb6
    have hbC : Below w6.heap.size w6 (w6.alloc (.cells #[.int .i64 T, .int .i64 0] 24)) := (Below.refl _ _).alloc (Nat.le_refl _) _
    have hbC' := hb6'.trans (hbC.mono hb6'.size)
    have hqC := hq6.trans (hbC.mono hq6.size)
    have hyC := hy6.trans (hbC.mono hy6.size)
    have v0 : (w6.alloc (.cells #[.int .i64 T, .int .i64 0] 24)).cell? ⟨w6.heap.size, 0, none⟩ = some (.int .i64 T) := by simp
    have v1 : (w6.alloc (.cells #[.int .i64 T, .int .i64 0] 24)).cell? ⟨w6.heap.size, 1, none⟩ = some (.int .i64 0) := by simp
    have V0 := Lib.hid v0
    have V1 := Lib.hid v1
    clear v0 v1 x0 x1 H6
    have x0 := cell_keep hqC Z0.out
    have x1 := cell_keep hqC Z1.out
    have H7 := Lib.hid (shard_any T R M (w6.alloc (.cells #[.int .i64 T, .int .i64 0] 24)) (okR_nat ⟨hT1, hT2⟩ hR2) ⟨by omega, by omega⟩)
    go_wp2_with fail
    refine H7.out.mono ?_
    rintro e w7 ⟨rfl, hb7⟩
    have hb7' := hbC'.trans (hb7.mono hbC'.size)
    have hq7 := hqC.trans (hb7.mono hqC.size)
    have hy7 := hyC.trans (hb7.mono hyC.size)
    clear x0 x1 H7
    have u0 := cell_keep hb7 V0.out
    have u1 := cell_keep hb7 V1.out
    have H8 := Lib.hid (shard_any T 0 M w7 (okR_nat (r := 0) ⟨hT1, hT2⟩ (by omega)) ⟨by omega, by omega⟩)
    go_wp2_with fail
    refine H8.out.mono ?_
    rintro e w8 ⟨rfl, hb8⟩
    have hb8' := hb7'.trans (hb8.mono hb7'.size)
    have hq8 := hq7.trans (hb8.mono hq7.size)
    have hy8 := hy7.trans (hb8.mono hy7.size)
    clear u0 u1 H8
    have x0 := cell_keep hq8 Z0.out
    have x1 := cell_keep hq8 Z1.out
    have y0 := cell_keep hy8 Y0.out
    have y1 := cell_keep hy8 Y1.out
    have hm0 : 0 ≤ ((T : Int) - 1) % M := Int.emod_nonneg _ (by omega)
    have hm1 : ((T : Int) - 1) % M < M := Int.emod_lt_of_pos _ (by omega)
    generalize ((T : Int) - 1) % M = K at *
    have g1 : 1 ≤ K + 1 := by omega
    have g2 : K + 1 ≤ M := by omega
    go_wp2
    go_ret
    exact ⟨rfl, hb8'⟩
  | inl p =>
    obtain ⟨t, r⟩ := p
    rw [hr] at hR2'
    obtain rfl : e = .returned (.tuple #[.agg #[.int .i64 t, .int .i64 r], .nilIface]) := hR2'
    obtain ⟨ht1, ht2, hr2, htx⟩ := readL_is hr
    have hbZ : Below w2.heap.size w2 (w2.alloc (.cells #[.int .i64 t, .int .i64 r] 24)) := (Below.refl _ _).alloc (Nat.le_refl _) _
    have hbZ' := hb2'.trans (hbZ.mono hb2'.size)
    have H3 := Lib.hid (rtext_any t r (w2.alloc (.cells #[.int .i64 t, .int .i64 r] 24)) (HTW.out.below hbZ') ⟨ht1, ht2⟩ hr2)
    have heq : ((textB t r).toList == s.toList) = true := by rw [textB_list, htx, ByteArray.toList_eq]; simp
    generalize textB t r = tx at *
    clear hr htx
    go_wp2_with fail
    refine H3.out.mono ?_
    rintro e w3 ⟨rfl, hb3⟩
    have hb3' := hbZ'.trans (hb3.mono hbZ'.size)
    have hsX := hb3'.size
    have hbA : Below w3.heap.size w3 (w3.alloc (.cells #[.int .i64 T, .int .i64 R] 24)) := (Below.refl _ _).alloc (Nat.le_refl _) _
    have hbA' := hb3'.trans (hbA.mono hsX)
    have z0 : (w3.alloc (.cells #[.int .i64 T, .int .i64 R] 24)).cell? ⟨w3.heap.size, 0, none⟩ = some (.int .i64 T) := by simp
    have z1 : (w3.alloc (.cells #[.int .i64 T, .int .i64 R] 24)).cell? ⟨w3.heap.size, 1, none⟩ = some (.int .i64 R) := by simp
    have Z0 := Lib.hid z0
    have Z1 := Lib.hid z1
    clear z0 z1
    have H4 := Lib.hid (rtext_any T R (w3.alloc (.cells #[.int .i64 T, .int .i64 R] 24)) (HTW.out.below hbA') ⟨hT1, hT2⟩ hR2)
    go_wp2_with fail
    refine H4.out.mono ?_
    rintro e w4 ⟨rfl, hb4⟩
    have hb4' := hbA'.trans (hb4.mono hbA'.size)
    have hq4 := hb4
    have H5 := Lib.hid (parse_any (textB T R) w4 (HE.out.below hb4') (by have := textB_size T R; omega))
    clear H4
    generalize hTB : textB T R = tb at *
    have HTB := Lib.hid hTB
    clear hTB
    go_wp2_with fail
    refine H5.out.mono ?_
    rintro e w5 ⟨hR5, hb5⟩
    rw [parse_eq, ← HTB.out, textB_data, readL_text ⟨hT1, hT2⟩ hR2 rfl] at hR5
    have he5 : e = .returned (.tuple #[.agg #[.int .i64 T, .int .i64 R], .nilIface]) := hR5
    subst he5
    have hb5' := hb4'.trans (hb5.mono hb4'.size)
    have hq5 := hq4.trans (hb5.mono hq4.size)
    have hbB : Below w5.heap.size w5 (w5.alloc (.cells #[.int .i64 T, .int .i64 R] 24)) := (Below.refl _ _).alloc (Nat.le_refl _) _
    have hbB' := hb5'.trans (hbB.mono hb5'.size)
    have hqB := hq5.trans (hbB.mono hq5.size)
    have y0 : (w5.alloc (.cells #[.int .i64 T, .int .i64 R] 24)).cell? ⟨w5.heap.size, 0, none⟩ = some (.int .i64 T) := by simp
    have y1 : (w5.alloc (.cells #[.int .i64 T, .int .i64 R] 24)).cell? ⟨w5.heap.size, 1, none⟩ = some (.int .i64 R) := by simp
    have Y0 := Lib.hid y0
    have Y1 := Lib.hid y1
    clear y0 y1
    have x0 := cell_keep hqB Z0.out
    have x1 := cell_keep hqB Z1.out
    have H6 := Lib.hid (table_any T R (w5.alloc (.cells #[.int .i64 T, .int .i64 R] 24)) ⟨hT1, hT2⟩ hR2)
    clear H5
    go_wp2_with fail
    refine H6.out.mono ?_
    rintro e w6 ⟨rfl, hb6⟩
    have hb6' := hbB'.trans (hb6.mono hbB'.size)
    have hq6 := hqB.trans (hb6.mono hqB.size)
    have hy6 := hb6
    have hbC : Below w6.heap.size w6 (w6.alloc (.cells #[.int .i64 T, .int .i64 0] 24)) := (Below.refl _ _).alloc (Nat.le_refl _) _
    have hbC' := hb6'.trans (hbC.mono hb6'.size)
    have hqC := hq6.trans (hbC.mono hq6.size)
    have hyC := hy6.trans (hbC.mono hy6.size)
    have v0 : (w6.alloc (.cells #[.int .i64 T, .int .i64 0] 24)).cell? ⟨w6.heap.size, 0, none⟩ = some (.int .i64 T) := by simp
    have v1 : (w6.alloc (.cells #[.int .i64 T, .int .i64 0] 24)).cell? ⟨w6.heap.size, 1, none⟩ = some (.int .i64 0) := by simp
    have V0 := Lib.hid v0
    have V1 := Lib.hid v1
    clear v0 v1 x0 x1 H6
    have x0 := cell_keep hqC Z0.out
    have x1 := cell_keep hqC Z1.out
    have H7 := Lib.hid (shard_any T R M (w6.alloc (.cells #[.int .i64 T, .int .i64 0] 24)) (okR_nat ⟨hT1, hT2⟩ hR2) ⟨by omega, by omega⟩)
    go_wp2_with fail
    refine H7.out.mono ?_
    rintro e w7 ⟨rfl, hb7⟩
    have hb7' := hbC'.trans (hb7.mono hbC'.size)
    have hq7 := hqC.trans (hb7.mono hqC.size)
    have hy7 := hyC.trans (hb7.mono hyC.size)
    clear x0 x1 H7
    have u0 := cell_keep hb7 V0.out
    have u1 := cell_keep hb7 V1.out
    have H8 := Lib.hid (shard_any T 0 M w7 (okR_nat (r := 0) ⟨hT1, hT2⟩ (by omega)) ⟨by omega, by omega⟩)
    go_wp2_with fail
    refine H8.out.mono ?_
    rintro e w8 ⟨rfl, hb8⟩
    have hb8' := hb7'.trans (hb8.mono hb7'.size)
    have hq8 := hq7.trans (hb8.mono hq7.size)
    have hy8 := hy7.trans (hb8.mono hy7.size)
    clear u0 u1 H8
    have x0 := cell_keep hq8 Z0.out
    have x1 := cell_keep hq8 Z1.out
    have y0 := cell_keep hy8 Y0.out
    have y1 := cell_keep hy8 Y1.out
    have hm0 : 0 ≤ ((T : Int) - 1) % M := Int.emod_nonneg _ (by omega)
    have hm1 : ((T : Int) - 1) % M < M := Int.emod_lt_of_pos _ (by omega)
    generalize ((T : Int) - 1) % M = K at *
    have g1 : 1 ≤ K + 1 := by omega
    have g2 : K + 1 ≤ M := by omega
    go_wp2
    go_ret
    exact ⟨rfl, hb8'⟩
end Go.Proofs.YtonphamahnagfaaDoor

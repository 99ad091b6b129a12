/-
  strconv.Itoa of numbers up to 999; res.Text, res.Table. The condition: the table internal/strconv.uint64pow10 reads as the program's text lays it.
-/
import Derived.Test.YtonphamahnagfaaDoorResL
import Derived.Test.YtonphamahnagfaaDoorLaid2
import Derived.Test.YtonphamahnagfaaDoorShelf
namespace Go.Proofs.YtonphamahnagfaaDoor
open Go.ChangeShapes Go.WideShapes Go.ChangeAt Go.RowKit
set_option linter.unusedVariables false

theorem TabW.below {w w1 : World} (h : TabW w) (hb : Below w.heap.size w w1) : TabW w1 := by
  unfold TabW Lib.TabIs World.var? at h ⊢
  rw [Tryd.gTab] at h ⊢
  simp only [Option.bind_some] at h ⊢
  rcases Nat.lt_or_ge 1 w.heap.size with hg | hg
  · rw [hb.block _ hg]; exact h
  · rw [Array.getElem?_eq_none hg] at h; cases h
theorem grow_below (w : World) (k : Nat) (os : Array Obj) : Below w.heap.size w (Sort.grow (w.drewN k) os) := by
  refine ⟨rfl, rfl, rfl, ?_, fun j hj => ?_⟩
  · show w.heap.size ≤ (w.heap ++ os).size
    simp
  · show (w.heap ++ os)[j]? = _
    rw [Array.getElem?_append_left hj]
theorem dec_digs : ∀ n, n < 1000 → Lib.decDigits n = digL n := by
  intro n hn
  unfold digL
  by_cases h1 : n < 10
  · rw [if_pos h1, Lib.decDigits, dif_pos h1]; rfl
  · by_cases h2 : n < 100
    · rw [if_neg h1, if_pos h2, Lib.decDigits, dif_neg h1, Lib.decDigits, dif_pos (by omega)]; rfl
    · rw [if_neg h1, if_neg h2, Lib.decDigits, dif_neg h1, Lib.decDigits, dif_neg (by omega), Lib.decDigits, dif_pos (by omega), show n / 10 / 10 = n / 100 by omega]; rfl
theorem itoa_any (n : Nat) (w : World) (h : TabW w) (hn : n < 1000) :
    Calls Tryd.prog 29 #[.int .i64 n] w fun e w' => e = .returned (.string (digs n)) ∧ Below w.heap.size w w' := by
  refine (Tryd.strconv_Itoa (n : Int) (by omega) (by omega) w h).mono ?_
  rintro e w' ⟨rfl, k, os, rfl⟩
  refine ⟨?_, grow_below _ _ _⟩
  unfold Lib.itoa digs
  rw [if_neg (by omega), Int.toNat_natCast, dec_digs n hn]

theorem okR_nat {t r : Nat} (h : 1 ≤ t ∧ t ≤ 250) (hr : r ≤ 250) : okR t r = true := by unfold okR; simp; omega
theorem textB_row2 {t r : Nat} (h : ¬ r = 0) : digs t ++ ((⟨#[46]⟩ : ByteArray) ++ digs r) = textB t r := by
  rw [← textB_row h]
  apply ByteArray.ext
  simp

set_option maxRecDepth 100000 in
set_option maxHeartbeats 1000000 in
theorem rtext_any (t r : Nat) (w : World) (hT : TabW w) (ht : 1 ≤ t ∧ t ≤ 250) (hr : r ≤ 250) :
    Calls Tryd.prog 13 #[.agg #[.int .i64 t, .int .i64 r]] w fun e w' => e = .returned (.tuple #[.string (textB t r), .nilIface]) ∧ Below w.heap.size w w' := by
  have hbA : Below w.heap.size w (w.alloc (.cells #[.int .i64 t, .int .i64 r] 24)) := (Below.refl _ _).alloc (Nat.le_refl _) _
  have HO := Lib.hid (ok_yes t r (w.alloc (.cells #[.int .i64 t, .int .i64 r] 24)) (okR_nat ht hr))
  have hb0 : (w.alloc (.cells #[.int .i64 t, .int .i64 r] 24)).cell? ⟨w.heap.size, 0, none⟩ = some (.int .i64 t) := by simp
  have hb1 : (w.alloc (.cells #[.int .i64 t, .int .i64 r] 24)).cell? ⟨w.heap.size, 1, none⟩ = some (.int .i64 r) := by simp
  have HT := Lib.hid hT
  clear hT
  go_enter Tryd.func13, Tryd.ntmps13
  go_wp2_with fail
  refine HO.out.mono ?_
  rintro e w5 ⟨rfl, hb5⟩
  have hb5' := hbA.trans (hb5.mono hbA.size)
  have c0 := cell_keep hb5 hb0
  have c1 := cell_keep hb5 hb1
  clear hb0 hb1
  go_wp2_with fail
  refine (itoa_any t _ (HT.out.below hb5') (by omega)).mono ?_
  rintro e w6 ⟨rfl, hb6⟩
  have hb6' := hb5'.trans (hb6.mono hb5'.size)
  have d1 := cell_keep hb6 c1
  clear c0 c1
  by_cases hr0 : r = 0
  · subst hr0
    go_wp2
    go_ret2
    exact ⟨rfl, hb6'⟩
  · have hr' : (0 : Int) < r := by omega
    have hrn : 0 < r := by omega
    have hX := textB_row2 (t := t) hr0
    have h1 : ¬ 9223372036854775807 < (⟨#[46]⟩ : ByteArray).size + (digs r).size := by
      have := digs_size r
      rw [show (⟨#[46]⟩ : ByteArray).size = 1 from rfl]; omega
    have h1' : ¬ 9223372036854775807 < 1 + (digs r).size := by have := digs_size r; omega
    have h2 : ¬ 9223372036854775807 < (digs t).size + ((⟨#[46]⟩ : ByteArray) ++ digs r).size := by
      have a1 := digs_size t
      have a2 := digs_size r
      rw [ByteArray.size_append, show (⟨#[46]⟩ : ByteArray).size = 1 from rfl]; omega
    have HI := Lib.hid (itoa_any r w6 (HT.out.below hb6') (by omega))
    generalize digs t = d1' at *
    generalize digs r = d2' at *
    obtain ⟨X, hXX⟩ : ∃ X, (⟨#[46]⟩ : ByteArray) ++ d2' = X := ⟨_, rfl⟩
    rw [hXX] at hX h2
    go_wp2_with fail
    refine HI.out.mono ?_
    rintro e w7 ⟨rfl, hb7⟩
    go_wp2
    go_ret2
    exact ⟨rfl, hb6'.trans (hb7.mono hb6'.size)⟩

set_option maxHeartbeats 1000000 in
theorem table_any (t r : Nat) (w : World) (ht : 1 ≤ t ∧ t ≤ 250) (hr : r ≤ 250) :
    Calls Tryd.prog 14 #[.agg #[.int .i64 t, .int .i64 r]] w fun e w' => e = .returned (.tuple #[.agg #[.int .i64 t, .int .i64 0], .nilIface]) ∧ Below w.heap.size w w' := by
  have hbA : Below w.heap.size w ((w.alloc (.cells #[.int .i64 t, .int .i64 r] 24)).alloc (.cells #[.int .i64 0, .int .i64 0] 24)) := by go_grown
  have HO := Lib.hid (ok_yes t r ((w.alloc (.cells #[.int .i64 t, .int .i64 r] 24)).alloc (.cells #[.int .i64 0, .int .i64 0] 24)) (okR_nat ht hr))
  have hb0 : ((w.alloc (.cells #[.int .i64 t, .int .i64 r] 24)).alloc (.cells #[.int .i64 0, .int .i64 0] 24)).cell? ⟨w.heap.size, 0, none⟩ = some (.int .i64 t) := by
    rw [World.cell?_alloc_lt _ _ ⟨w.heap.size, 0, none⟩ (by simp)]; simp
  have hz0 : ((w.alloc (.cells #[.int .i64 t, .int .i64 r] 24)).alloc (.cells #[.int .i64 0, .int .i64 0] 24)).cell? ⟨w.heap.size + 1, 0, none⟩ = some (.int .i64 0) := by
    rw [World.cell?_alloc_at _ _ _ _ (by simp)]; rfl
  have hz1 : ((w.alloc (.cells #[.int .i64 t, .int .i64 r] 24)).alloc (.cells #[.int .i64 0, .int .i64 0] 24)).cell? ⟨w.heap.size + 1, 1, none⟩ = some (.int .i64 0) := by
    rw [World.cell?_alloc_at _ _ _ _ (by simp)]; rfl
  go_enter Tryd.func14, Tryd.ntmps14
  go_wp2_with fail
  refine HO.out.mono ?_
  rintro e w5 ⟨rfl, hb5⟩
  have hb5' := hbA.trans (hb5.mono hbA.size)
  have c0 := cell_keep hb5 hb0
  have r0 := cell_keep hb5 hz0
  have r1 := cell_keep hb5 hz1
  have f0 : w5.frozen? ⟨w.heap.size + 1, 0, none⟩ = false := (hb5.frozen (p := ⟨w.heap.size + 1, 0, none⟩) (by simp)).trans (by simp)
  have f1 : w5.frozen? ⟨w.heap.size + 1, 1, none⟩ = false := (hb5.frozen (p := ⟨w.heap.size + 1, 1, none⟩) (by simp)).trans (by simp)
  obtain ⟨q0, q1⟩ := set2 r0 r1 (.int .i64 t) (.int .i64 0)
  have HBF := Lib.hid (show Below w.heap.size w ((w5.setCell ⟨w.heap.size + 1, 0, none⟩ (.int .i64 t)).setCell ⟨w.heap.size + 1, 1, none⟩ (.int .i64 0)) from Below.setCell (Below.setCell hb5' (Nat.le_succ _) _) (Nat.le_succ _) _)
  clear hb0 hz0 hz1
  go_wp2
  refine bodyPost_ret (by simp [results, Tryd.results14, go_sem, q0, q1] <;> rfl) rfl ?_
  exact ⟨rfl, HBF.out⟩
end Go.Proofs.YtonphamahnagfaaDoor

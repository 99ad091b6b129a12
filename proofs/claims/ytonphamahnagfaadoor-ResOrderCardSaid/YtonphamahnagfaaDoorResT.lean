/-
  catchboltref02.Text: of numbers below a thousand. No other conditions.
-/
import Derived.Test.YtonphamahnagfaaDoorResQ
namespace Go.Proofs.YtonphamahnagfaaDoor
open Go.ChangeShapes Go.WideShapes Go.ChangeAt Go.RowKit
set_option linter.unusedVariables false

def textB (t r : Nat) : ByteArray := ⟨(textL t r).toArray⟩
theorem textB_row {t r : Nat} (h : ¬ r = 0) : (digs t ++ ⟨#[46]⟩) ++ digs r = textB t r := by
  have e : ∀ a b : List UInt8, (⟨a.toArray⟩ : ByteArray) ++ ⟨b.toArray⟩ = ⟨(a ++ b).toArray⟩ := fun a b => by
    apply ByteArray.ext; simp
  unfold digs textB textL
  rw [show (#[46] : Array UInt8) = [46].toArray from rfl, e, e, if_neg h]
  simp
theorem textB_tab (t : Nat) : digs t = textB t 0 := rfl

set_option maxRecDepth 100000 in
set_option maxHeartbeats 1000000 in
theorem text_any (t r : Nat) (w : World) (ht : t < 1000) (hr : r < 1000) :
    Calls Tryd.prog 18 #[.agg #[.int .i64 t, .int .i64 r]] w fun e w' => e = .returned (.string (textB t r)) ∧ Below w.heap.size w w' := by
  have hbA : Below w.heap.size w (w.alloc (.cells #[.int .i64 t, .int .i64 r] 24)) := (Below.refl _ _).alloc (Nat.le_refl _) _
  by_cases hr0 : r = 0
  · subst hr0
    rw [← textB_tab]
    go_enter Tryd.func18, Tryd.ntmps18
    go_wp2_with fail
    refine (digits_any t _ ht).mono ?_
    rintro e w5 ⟨rfl, hb5⟩
    go_wp2
    go_ret
    exact ⟨rfl, hbA.trans (hb5.mono hbA.size)⟩
  · have hr' : ((r : Int) == 0) = false := by simp; omega
    have HD1 := Lib.hid (fun W => digits_any t W ht)
    have HD2 := Lib.hid (fun W => digits_any r W hr)
    have hX := textB_row (t := t) hr0
    have h1 : ¬ 9223372036854775807 < (digs t).size + (⟨#[46]⟩ : ByteArray).size := by
      have := digs_size t
      rw [show (⟨#[46]⟩ : ByteArray).size = 1 from rfl]; omega
    have h1' : ¬ 9223372036854775807 < (digs t).size + 1 := by have := digs_size t; omega
    have h2 : ¬ 9223372036854775807 < (digs t ++ ⟨#[46]⟩ : ByteArray).size + (digs r).size := by
      have a1 := digs_size t
      have a2 := digs_size r
      rw [ByteArray.size_append, show (⟨#[46]⟩ : ByteArray).size = 1 from rfl]; omega
    have b0 : (w.alloc (.cells #[.int .i64 t, .int .i64 r] 24)).cell? ⟨w.heap.size, 0, none⟩ = some (.int .i64 t) := by simp
    have b1 : (w.alloc (.cells #[.int .i64 t, .int .i64 r] 24)).cell? ⟨w.heap.size, 1, none⟩ = some (.int .i64 r) := by simp
    generalize digs t = d1 at *
    generalize digs r = d2 at *
    obtain ⟨X, hXX⟩ : ∃ X, d1 ++ (⟨#[46]⟩ : ByteArray) = X := ⟨_, rfl⟩
    rw [hXX] at hX h2
    clear hr0
    go_enter Tryd.func18, Tryd.ntmps18
    go_wp2
    refine wp_region_N (S := (fun w' => w'.cell? ⟨w.heap.size, 0, none⟩ = some (.int .i64 t) ∧ w'.cell? ⟨w.heap.size, 1, none⟩ = some (.int .i64 r))) (fun i => true) (by kernel_rfl) ?_ (fun hHeld => ?_)
    · (try dsimp only)
      first
        | (constructor <;> with_reducible assumption)
        | (refine ⟨cell_keep ?_ b0, cell_keep ?_ b1⟩ <;> (go_grown; done))
    refine wpAnyN_take [1, 2, 3, 6, 7, 8] (i := 0) (v := ?_) rfl (by kernel_rfl) (by kernel_rfl) (by kernel_rfl) (by kernel_rfl) (by kernel_rfl) (fun _ _ _ h => h) (Or.inl ⟨by first | kernel_rfl | rfl, ?_⟩) (by assumption) ?_
    rotate_left
    focus
      intro w hSw
      (try dsimp only at hSw)
      go_simp
      try with_reducible rfl
    (try change wpAnyN _ _ _ _ _ _ _ _ (Act.put _ (some 9) _) _)
    try (unfold Act.put; dsimp only)
    refine wpAnyN_take [2, 3, 6, 7, 8] (i := 1) (v := ?_) rfl (by kernel_rfl) (by kernel_rfl) (by kernel_rfl) (by kernel_rfl) (by kernel_rfl) (fun _ _ _ h => h) (Or.inl ⟨by first | kernel_rfl | rfl, ?_⟩) (by assumption) ?_
    rotate_left
    focus
      intro w hSw
      (try dsimp only at hSw)
      go_simp
      try with_reducible rfl
    (try change wpAnyN _ _ _ _ _ _ _ _ (Act.put _ (some 10) _) _)
    try (unfold Act.put; dsimp only)
    refine wpAnyN_take [5, 6, 7, 8] (i := 4) (v := ?_) rfl (by kernel_rfl) (by kernel_rfl) (by kernel_rfl) (by kernel_rfl) (by kernel_rfl) (fun _ _ _ h => h) (Or.inl ⟨by first | kernel_rfl | rfl, ?_⟩) (by assumption) ?_
    rotate_left
    focus
      intro w hSw
      (try dsimp only at hSw)
      go_simp
      try with_reducible rfl
    (try change wpAnyN _ _ _ _ _ _ _ _ (Act.put _ (some 13) _) _)
    try (unfold Act.put; dsimp only)
    refine wpAnyN_take [6, 7, 8] (i := 5) (v := ?_) rfl (by kernel_rfl) (by kernel_rfl) (by kernel_rfl) (by kernel_rfl) (by kernel_rfl) (fun _ _ _ h => h) (Or.inl ⟨by first | kernel_rfl | rfl, ?_⟩) (by assumption) ?_
    rotate_left
    focus
      intro w hSw
      (try dsimp only at hSw)
      go_simp
      try with_reducible rfl
    (try change wpAnyN _ _ _ _ _ _ _ _ (Act.put _ (some 14) _) _)
    try (unfold Act.put; dsimp only)
    refine wpAnyN_ready (rs := [2]) (by kernel_rfl) (by simp) ?_
    refine AllReadyN.cons rfl (fun K hK => ?_) ?_
    · go_simp
      go_at_call 27
      refine (HD1.out _).mono ?_
      rintro e w5 ⟨rfl, hb5⟩
      have hbw : Below (w.alloc (.cells #[.int .i64 t, .int .i64 r] 24)).heap.size (w.alloc (.cells #[.int .i64 t, .int .i64 r] 24)) w5 := Below.trans (show Below _ _ _ by first | (go_grown; done) | exact hbw) (hb5.mono (by first | omega | (simp; done) | (simp; omega) | exact hbw.size))
      dsimp only
      refine hK.out _ _ ?_ (fun hHeld => ?_)
      · (try dsimp only)
        first
          | (constructor <;> with_reducible assumption)
          | (refine ⟨cell_keep ?_ b0, cell_keep ?_ b1⟩ <;> (go_grown; done))
      clear hK K
      (try change wpAnyN _ _ _ _ _ _ _ _ (Act.put _ (some 11) _) _)
      try (unfold Act.put; dsimp only)
      refine wpAnyN_take [7, 8] (i := 3) (v := ?_) rfl (by kernel_rfl) (by kernel_rfl) (by kernel_rfl) (by kernel_rfl) (by kernel_rfl) (fun _ _ _ h => h) (Or.inl ⟨by first | kernel_rfl | rfl, ?_⟩) (by assumption) ?_
      rotate_left
      focus
        intro w hSw
        (try dsimp only at hSw)
        go_simp
        try with_reducible rfl
      (try change wpAnyN _ _ _ _ _ _ _ _ (Act.put _ (some 12) _) _)
      try (unfold Act.put; dsimp only)
      refine wpAnyN_ready (rs := [6]) (by kernel_rfl) (by simp) ?_
      refine AllReadyN.cons rfl (fun K hK => ?_) ?_
      · go_simp
        go_at_call 27
        refine (HD2.out _).mono ?_
        rintro e w5 ⟨rfl, hb5⟩
        have hbw : Below (w.alloc (.cells #[.int .i64 t, .int .i64 r] 24)).heap.size (w.alloc (.cells #[.int .i64 t, .int .i64 r] 24)) w5 := Below.trans (show Below _ _ _ by first | (go_grown; done) | exact hbw) (hb5.mono (by first | omega | (simp; done) | (simp; omega) | exact hbw.size))
        dsimp only
        refine hK.out _ _ ?_ (fun hHeld => ?_)
        · (try dsimp only)
          first
            | (constructor <;> with_reducible assumption)
            | (refine ⟨cell_keep ?_ b0, cell_keep ?_ b1⟩ <;> (go_grown; done))
        clear hK K
        (try change wpAnyN _ _ _ _ _ _ _ _ (Act.put _ (some 15) _) _)
        try (unfold Act.put; dsimp only)
        refine wpAnyN_take [8] (i := 7) (v := ?_) rfl (by kernel_rfl) (by kernel_rfl) (by kernel_rfl) (by kernel_rfl) (by kernel_rfl) (fun _ _ _ h => h) (Or.inl ⟨by first | kernel_rfl | rfl, ?_⟩) (by assumption) ?_
        rotate_left
        focus
          intro w hSw
          (try dsimp only at hSw)
          go_simp
          try with_reducible rfl
        (try change wpAnyN _ _ _ _ _ _ _ _ (Act.put _ (some 16) _) _)
        try (unfold Act.put; dsimp only)
        refine wpAnyN_take [] (i := 8) (v := ?_) rfl (by kernel_rfl) (by kernel_rfl) (by kernel_rfl) (by kernel_rfl) (by kernel_rfl) (fun _ _ _ h => h) (Or.inl ⟨by first | kernel_rfl | rfl, ?_⟩) (by assumption) ?_
        rotate_left
        focus
          intro w hSw
          (try dsimp only at hSw)
          go_simp
          try with_reducible rfl
        (try change wpAnyN _ _ _ _ _ _ _ _ (Act.put _ (some 2) _) _)
        try (unfold Act.put; dsimp only)
        refine wpAnyN_done (by kernel_rfl) ?_ _
        go_wp2
        go_ret
        exact ⟨rfl, hbA.trans (hbw.mono hbA.size)⟩
      exact AllReadyN.nil
    exact AllReadyN.nil
end Go.Proofs.YtonphamahnagfaaDoor

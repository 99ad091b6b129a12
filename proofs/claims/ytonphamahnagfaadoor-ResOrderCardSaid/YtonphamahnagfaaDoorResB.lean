/-
  catchboltref02.Digits: of numbers below a thousand. No other conditions.
-/
import Derived.Test.YtonphamahnagfaaDoorResF
import Derived.Test.YtonphamahnagfaaDoorNum
import Derived.Test.YtonphamahnagfaaDoorErr
import Derived.Test.YtonphamahnagfaaDoorRegN
import Derived.LoopTactic
import Derived.Lib.Walk
import Derived.Lib.SliceRun
import Derived.Laws.BytesArg
import Derived.Deep.QuietTactic
import Derived.BigQuiet
namespace Go.Proofs.YtonphamahnagfaaDoor
open Go.ChangeShapes Go.WideShapes Go.ChangeAt Go.RowKit
set_option linter.unusedVariables false

def digs (n : Nat) : ByteArray := ⟨(digL n).toArray⟩
theorem digs_size (n : Nat) : (digs n).size ≤ 3 := by
  have := dig_len n
  show (digL n).toArray.size ≤ 3
  simpa using this
theorem conv_one {W : World} {b : Nat} (X : Int) (h : W.cell? ⟨b, 0, none⟩ = some (.int .u8 X)) :
    (convert 79 9 (.slice (some ⟨b, 0, none⟩) 1 1)).run Tryd.prog W = .ok (.string (strOfNums [X])) W :=
  run_convert_bytes_arg W 79 5 Tryd.underlying79 Tryd.underlying5 b 0 1 1 [X] rfl (fun i hi => by
    cases i with
    | zero => exact h
    | succ i => omega) 9 Tryd.underlying9
theorem str_one (k : Nat) : strOfNums [(48 + (k : Int))] = ⟨#[dg k]⟩ := by
  have : (48 + (k : Int)).toNat = 48 + k := by omega
  simp [strOfNums, dg, this]
theorem digs_small {n : Nat} (h : n < 10) : digs n = ⟨#[dg n]⟩ := by unfold digs digL; rw [if_pos h]
theorem digs_more {n : Nat} (h : 10 ≤ n) (h2 : n < 1000) : digs (n / 10) ++ ⟨#[dg (n % 10)]⟩ = digs n := by
  have e : ∀ a b : List UInt8, (⟨a.toArray⟩ : ByteArray) ++ ⟨b.toArray⟩ = ⟨(a ++ b).toArray⟩ := fun a b => by
    apply ByteArray.ext; simp
  unfold digs
  rw [show (#[dg (n % 10)] : Array UInt8) = [dg (n % 10)].toArray from rfl, e]
  congr 2
  unfold digL
  by_cases h3 : n < 100
  · rw [if_pos (by omega), if_neg (by omega), if_pos h3]; rfl
  · rw [if_neg (by omega), if_pos (by omega), if_neg (by omega), if_neg h3, show n / 10 / 10 = n / 100 by omega]; rfl

set_option maxRecDepth 100000 in
set_option maxHeartbeats 400000 in
theorem digits1 (n : Nat) (w : World) (h : n < 10) :
    Calls Tryd.prog 27 #[.int .i64 n] w fun e w' => e = .returned (.string (digs n)) ∧ Below w.heap.size w w' := by
  have h' : (n : Int) < 10 := by omega
  have hb : Below w.heap.size w (w.alloc (.cells #[.int .u8 (48 + (n : Int))] 5)) := (Below.refl _ _).alloc (Nat.le_refl _) _
  have hcv := conv_one (W := w.alloc (.cells #[.int .u8 (48 + (n : Int))] 5)) (b := w.heap.size) (48 + (n : Int)) (by simp)
  rw [str_one, ← digs_small h] at hcv
  go_enter Tryd.func27, Tryd.ntmps27
  go_wp2
  go_ret
  exact ⟨rfl, hb⟩

set_option maxRecDepth 100000 in
set_option maxHeartbeats 300000 in
theorem digits_step (n : Nat) (w : World) (h : 10 ≤ n) (h2 : n < 1000) (HC : ∀ w, Calls Tryd.prog 27 #[.int .i64 (n / 10 : Nat)] w fun e w' => e = .returned (.string (digs (n / 10))) ∧ Below w.heap.size w w') :
    Calls Tryd.prog 27 #[.int .i64 n] w fun e w' => e = .returned (.string (digs n)) ∧ Below w.heap.size w w' := by
  have h' : ¬ (n : Int) < 10 := by omega
  have H := Lib.hid HC
  have hda := digs_more h h2
  rw [← str_one (n % 10)] at hda
  have hsz := digs_size (n / 10)
  have hsz2 : (strOfNums [(48 + ((n % 10 : Nat) : Int))]).size = 1 := by rw [str_one]; rfl
  have hq : IntKind.i64.wrap ((n : Int) / 10) = ((n / 10 : Nat) : Int) := by rw [IntKind.wrap_i64]; omega
  have hr : (n : Int).tmod 10 = ((n % 10 : Nat) : Int) := by rw [Int.tmod_eq_emod_of_nonneg (by omega)]; omega
  have hd : n % 10 < 10 := Nat.mod_lt _ (by omega)
  have HDA := Lib.hid hda
  clear HC hda
  generalize n / 10 = q at *
  generalize n % 10 = d at *
  have hs : IntKind.i64.wrap (48 + (d : Int)) = 48 + d := by rw [IntKind.wrap_i64]; omega
  have hu : IntKind.u8.wrap (48 + (d : Int)) = 48 + d := by rw [IntKind.wrap_u8]; omega
  generalize hST : strOfNums [(48 + (d : Int))] = ST at *
  have hns : ¬ 9223372036854775807 < (digs q).size + ST.size := by omega
  have hda := HDA.out
  clear hsz hsz2
  go_enter Tryd.func27, Tryd.ntmps27
  go_wp2
  refine wp_region_N (S := (fun _ => True)) (fun i => true) (by kernel_rfl) ?_ (fun hHeld => ?_)
  · (try dsimp only)
    try trivial
  refine wpAnyN_take [1, 2, 9, 10] (i := 0) (v := ?_) rfl (by kernel_rfl) (by kernel_rfl) (by kernel_rfl) (by kernel_rfl) (by kernel_rfl) (fun _ _ _ h => h) (Or.inl ⟨by first | kernel_rfl | rfl, ?_⟩) (by assumption) ?_
  rotate_left
  focus
    intro w hSw
    (try dsimp only at hSw)
    go_simp
    try with_reducible rfl
  (try change wpAnyN _ _ _ _ _ _ _ _ (Act.put _ (some 10) _) _)
  try (unfold Act.put; dsimp only)
  refine wpAnyN_take [2, 9, 10] (i := 1) (v := ?_) rfl (by kernel_rfl) (by kernel_rfl) (by kernel_rfl) (by kernel_rfl) (by kernel_rfl) (fun _ _ _ h => h) (Or.inl ⟨by first | kernel_rfl | rfl, ?_⟩) (by assumption) ?_
  rotate_left
  focus
    intro w hSw
    (try dsimp only at hSw)
    go_simp
    try with_reducible rfl
  (try change wpAnyN _ _ _ _ _ _ _ _ (Act.put _ (some 11) _) _)
  try (unfold Act.put; dsimp only)
  refine wpAnyN_take [4, 5, 6, 7, 8, 9, 10] (i := 3) (v := ?_) rfl (by kernel_rfl) (by kernel_rfl) (by kernel_rfl) (by kernel_rfl) (by kernel_rfl) (fun _ _ _ h => h) (Or.inl ⟨by first | kernel_rfl | rfl, ?_⟩) (by assumption) ?_
  rotate_left
  focus
    intro w hSw
    (try dsimp only at hSw)
    go_simp
    try with_reducible rfl
  (try change wpAnyN _ _ _ _ _ _ _ _ (Act.put _ (some 13) _) _)
  try (unfold Act.put; dsimp only)
  refine wpAnyN_take [5, 6, 7, 8, 9, 10] (i := 4) (v := ?_) rfl (by kernel_rfl) (by kernel_rfl) (by kernel_rfl) (by kernel_rfl) (by kernel_rfl) (fun _ _ _ h => h) (Or.inl ⟨by first | kernel_rfl | rfl, ?_⟩) (by assumption) ?_
  rotate_left
  focus
    intro w hSw
    (try dsimp only at hSw)
    go_simp
    try with_reducible rfl
  (try change wpAnyN _ _ _ _ _ _ _ _ (Act.put _ (some 14) _) _)
  try (unfold Act.put; dsimp only)
  refine wpAnyN_take [6, 7, 8, 9, 10] (i := 5) (v := ?_) rfl (by kernel_rfl) (by kernel_rfl) (by kernel_rfl) (by kernel_rfl) (by kernel_rfl) (fun _ _ _ h => h) (Or.inl ⟨by first | kernel_rfl | rfl, ?_⟩) (by assumption) ?_
  rotate_left
  focus
    intro w hSw
    (try dsimp only at hSw)
    go_simp
    try with_reducible rfl
  (try change wpAnyN _ _ _ _ _ _ _ _ (Act.put _ (some 15) _) _)
  try (unfold Act.put; dsimp only)
  refine wpAnyN_take [7, 8, 9, 10] (i := 6) (v := ?_) rfl (by kernel_rfl) (by kernel_rfl) (by kernel_rfl) (by kernel_rfl) (by kernel_rfl) (fun _ _ _ h => h) (Or.inl ⟨by first | kernel_rfl | rfl, ?_⟩) (by assumption) ?_
  rotate_left
  focus
    intro w hSw
    (try dsimp only at hSw)
    go_simp
    try with_reducible rfl
  (try change wpAnyN _ _ _ _ _ _ _ _ (Act.put _ (some 16) _) _)
  try (unfold Act.put; dsimp only)
  refine wpAnyN_ready (rs := [2, 7]) (by kernel_rfl) (by simp) ?_
  refine AllReadyN.cons rfl (fun K hK => ?_) ?_
  · go_simp
    go_at_call 27
    refine (H.out _).mono ?_
    rintro e w5 ⟨rfl, hb5⟩
    have hbw5 : Below w.heap.size w w5 := Below.trans (show Below w.heap.size w _ by go_grown) (hb5.mono (by first | omega | (simp; done) | (simp; omega)))
    dsimp only
    refine hK.out _ _ ?_ (fun hHeld => ?_)
    · (try dsimp only)
      try trivial
    clear hK K
    (try change wpAnyN _ _ _ _ _ _ _ _ (Act.put _ (some 12) _) _)
    try (unfold Act.put; dsimp only)
    refine wpAnyN_ready (rs := [7]) (by kernel_rfl) (by simp) ?_
    refine AllReadyN.cons rfl (fun K hK => ?_) ?_
    · go_simp
      refine hK.out _ _ ?_ (fun hHeld => ?_)
      · (try dsimp only)
        try trivial
      clear hK K
      (try change wpAnyN _ _ _ _ _ _ _ _ (Act.put _ (some 17) _) _)
      try (unfold Act.put; dsimp only)
      refine wpAnyN_ready (rs := [8]) (by kernel_rfl) (by simp) ?_
      refine AllReadyN.cons rfl (fun K hK => ?_) ?_
      · go_simp
        rw [conv_one (48 + (d : Int)) (by first | (simp; done) | (refine cell_keep hb5 ?_; simp; done)), hST]
        go_simp
        refine hK.out _ _ ?_ (fun hHeld => ?_)
        · (try dsimp only)
          try trivial
        clear hK K
        (try change wpAnyN _ _ _ _ _ _ _ _ (Act.put _ (some 18) _) _)
        try (unfold Act.put; dsimp only)
        refine wpAnyN_take [10] (i := 9) (v := ?_) rfl (by kernel_rfl) (by kernel_rfl) (by kernel_rfl) (by kernel_rfl) (by kernel_rfl) (fun _ _ _ h => h) (Or.inl ⟨by first | kernel_rfl | rfl, ?_⟩) (by assumption) ?_
        rotate_left
        focus
          intro w hSw
          (try dsimp only at hSw)
          go_simp
          try with_reducible rfl
        (try change wpAnyN _ _ _ _ _ _ _ _ (Act.put _ (some 19) _) _)
        try (unfold Act.put; dsimp only)
        refine wpAnyN_take [] (i := 10) (v := ?_) rfl (by kernel_rfl) (by kernel_rfl) (by kernel_rfl) (by kernel_rfl) (by kernel_rfl) (fun _ _ _ h => h) (Or.inl ⟨by first | kernel_rfl | rfl, ?_⟩) (by assumption) ?_
        rotate_left
        focus
          intro w hSw
          (try dsimp only at hSw)
          go_simp
          try with_reducible rfl
        (try change wpAnyN _ _ _ _ _ _ _ _ (Act.put _ (some 2) _) _)
        try (unfold Act.put; dsimp only)
        refine wpAnyN_done (by kernel_rfl) ?_ _
        go_wp2
        go_ret
        exact ⟨rfl, by first | exact hbw5 | exact hbw5.alloc hbw5.size _⟩
      exact AllReadyN.nil
    exact AllReadyN.nil
  refine AllReadyN.cons rfl (fun K hK => ?_) ?_
  · go_simp
    refine hK.out _ _ ?_ (fun hHeld => ?_)
    · (try dsimp only)
      try trivial
    clear hK K
    (try change wpAnyN _ _ _ _ _ _ _ _ (Act.put _ (some 17) _) _)
    try (unfold Act.put; dsimp only)
    refine wpAnyN_ready (rs := [2, 8]) (by kernel_rfl) (by simp) ?_
    refine AllReadyN.cons rfl (fun K hK => ?_) ?_
    · go_simp
      go_at_call 27
      refine (H.out _).mono ?_
      rintro e w5 ⟨rfl, hb5⟩
      have hbw5 : Below w.heap.size w w5 := Below.trans (show Below w.heap.size w _ by go_grown) (hb5.mono (by first | omega | (simp; done) | (simp; omega)))
      dsimp only
      refine hK.out _ _ ?_ (fun hHeld => ?_)
      · (try dsimp only)
        try trivial
      clear hK K
      (try change wpAnyN _ _ _ _ _ _ _ _ (Act.put _ (some 12) _) _)
      try (unfold Act.put; dsimp only)
      refine wpAnyN_ready (rs := [8]) (by kernel_rfl) (by simp) ?_
      refine AllReadyN.cons rfl (fun K hK => ?_) ?_
      · go_simp
        rw [conv_one (48 + (d : Int)) (by first | (simp; done) | (refine cell_keep hb5 ?_; simp; done)), hST]
        go_simp
        refine hK.out _ _ ?_ (fun hHeld => ?_)
        · (try dsimp only)
          try trivial
        clear hK K
        (try change wpAnyN _ _ _ _ _ _ _ _ (Act.put _ (some 18) _) _)
        try (unfold Act.put; dsimp only)
        refine wpAnyN_take [10] (i := 9) (v := ?_) rfl (by kernel_rfl) (by kernel_rfl) (by kernel_rfl) (by kernel_rfl) (by kernel_rfl) (fun _ _ _ h => h) (Or.inl ⟨by first | kernel_rfl | rfl, ?_⟩) (by assumption) ?_
        rotate_left
        focus
          intro w hSw
          (try dsimp only at hSw)
          go_simp
          try with_reducible rfl
        (try change wpAnyN _ _ _ _ _ _ _ _ (Act.put _ (some 19) _) _)
        try (unfold Act.put; dsimp only)
        refine wpAnyN_take [] (i := 10) (v := ?_) rfl (by kernel_rfl) (by kernel_rfl) (by kernel_rfl) (by kernel_rfl) (by kernel_rfl) (fun _ _ _ h => h) (Or.inl ⟨by first | kernel_rfl | rfl, ?_⟩) (by assumption) ?_
        rotate_left
        focus
          intro w hSw
          (try dsimp only at hSw)
          go_simp
          try with_reducible rfl
        (try change wpAnyN _ _ _ _ _ _ _ _ (Act.put _ (some 2) _) _)
        try (unfold Act.put; dsimp only)
        refine wpAnyN_done (by kernel_rfl) ?_ _
        go_wp2
        go_ret
        exact ⟨rfl, by first | exact hbw5 | exact hbw5.alloc hbw5.size _⟩
      exact AllReadyN.nil
    refine AllReadyN.cons rfl (fun K hK => ?_) ?_
    · go_simp
      rw [conv_one (48 + (d : Int)) (by first | (simp; done) | (refine cell_keep hb5 ?_; simp; done)), hST]
      go_simp
      refine hK.out _ _ ?_ (fun hHeld => ?_)
      · (try dsimp only)
        try trivial
      clear hK K
      (try change wpAnyN _ _ _ _ _ _ _ _ (Act.put _ (some 18) _) _)
      try (unfold Act.put; dsimp only)
      refine wpAnyN_ready (rs := [2]) (by kernel_rfl) (by simp) ?_
      refine AllReadyN.cons rfl (fun K hK => ?_) ?_
      · go_simp
        go_at_call 27
        refine (H.out _).mono ?_
        rintro e w5 ⟨rfl, hb5⟩
        have hbw5 : Below w.heap.size w w5 := Below.trans (show Below w.heap.size w _ by go_grown) (hb5.mono (by first | omega | (simp; done) | (simp; omega)))
        dsimp only
        refine hK.out _ _ ?_ (fun hHeld => ?_)
        · (try dsimp only)
          try trivial
        clear hK K
        (try change wpAnyN _ _ _ _ _ _ _ _ (Act.put _ (some 12) _) _)
        try (unfold Act.put; dsimp only)
        refine wpAnyN_take [10] (i := 9) (v := ?_) rfl (by kernel_rfl) (by kernel_rfl) (by kernel_rfl) (by kernel_rfl) (by kernel_rfl) (fun _ _ _ h => h) (Or.inl ⟨by first | kernel_rfl | rfl, ?_⟩) (by assumption) ?_
        rotate_left
        focus
          intro w hSw
          (try dsimp only at hSw)
          go_simp
          try with_reducible rfl
        (try change wpAnyN _ _ _ _ _ _ _ _ (Act.put _ (some 19) _) _)
        try (unfold Act.put; dsimp only)
        refine wpAnyN_take [] (i := 10) (v := ?_) rfl (by kernel_rfl) (by kernel_rfl) (by kernel_rfl) (by kernel_rfl) (by kernel_rfl) (fun _ _ _ h => h) (Or.inl ⟨by first | kernel_rfl | rfl, ?_⟩) (by assumption) ?_
        rotate_left
        focus
          intro w hSw
          (try dsimp only at hSw)
          go_simp
          try with_reducible rfl
        (try change wpAnyN _ _ _ _ _ _ _ _ (Act.put _ (some 2) _) _)
        try (unfold Act.put; dsimp only)
        refine wpAnyN_done (by kernel_rfl) ?_ _
        go_wp2
        go_ret
        exact ⟨rfl, by first | exact hbw5 | exact hbw5.alloc hbw5.size _⟩
      exact AllReadyN.nil
    exact AllReadyN.nil
  exact AllReadyN.nil

theorem digits_any (n : Nat) (w : World) (h : n < 1000) :
    Calls Tryd.prog 27 #[.int .i64 n] w fun e w' => e = .returned (.string (digs n)) ∧ Below w.heap.size w w' := by
  by_cases h1 : n < 10
  · exact digits1 n w h1
  · refine digits_step n w (by omega) h fun w => ?_
    by_cases h2 : n / 10 < 10
    · exact digits1 _ w h2
    · exact digits_step _ w (by omega) (by omega) fun w => digits1 _ w (by omega)
end Go.Proofs.YtonphamahnagfaaDoor

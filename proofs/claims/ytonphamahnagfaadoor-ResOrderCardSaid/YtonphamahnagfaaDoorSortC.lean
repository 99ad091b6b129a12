/-
  cmp.Compare, cmp.Or; the comparison by which resources are sorted.
-/
import Derived.Test.YtonphamahnagfaaDoorSortV
import Derived.Test.YtonphamahnagfaaDoorRegN
import Derived.Sort.Statements
import Derived.Sort.Grow
import Derived.BigRegion
import Derived.Deep.RegionWith
import Derived.LoopTactic
import Derived.WalkMore
import Derived.Below
namespace Go.Proofs.YtonphamahnagfaaDoor
open Go.RowKit Go.Sort
set_option linter.unusedVariables false
set_option linter.unusedSimpArgs false

/-- how two numbers stand to each other -/
def cmpI (a b : Int) : Int := if a < b then -1 else if b < a then 1 else 0
/-- how two resources do -/
def cmpR (x y : R2) : Int := if cmpI x.1 y.1 = 0 then cmpI x.2 y.2 else cmpI x.1 y.1
theorem cmpI_zero {a b : Int} : cmpI a b = 0 ↔ a = b := by
  unfold cmpI; split
  · constructor <;> intro h <;> omega
  · split
    · constructor <;> intro h <;> omega
    · constructor <;> intro h
      · omega
      · rfl
theorem cmpI_neg {a b : Int} : cmpI a b < 0 ↔ a < b := by
  unfold cmpI; split
  · constructor <;> intro h <;> omega
  · split
    · constructor <;> intro h <;> omega
    · constructor <;> intro h <;> omega
theorem cmpI_le (a b : Int) : -1 ≤ cmpI a b ∧ cmpI a b ≤ 1 := by
  unfold cmpI; split
  · omega
  · split <;> omega
theorem cmpR_neg {x y : R2} : cmpR x y < 0 ↔ x.1 < y.1 ∨ x.1 = y.1 ∧ x.2 < y.2 := by
  unfold cmpR
  by_cases h : cmpI x.1 y.1 = 0
  · rw [if_pos h, cmpI_neg]
    have := cmpI_zero.1 h
    omega
  · rw [if_neg h, cmpI_neg]
    have := mt cmpI_zero.2 h
    omega
theorem isNaN_any (a : Int) (w : World) :
    Calls Tryd.prog 45 #[.int .i64 a] w fun e w' => e = .returned (.bool false) ∧ w = w' := by
  go_enter Tryd.func45, Tryd.ntmps45
  go_wp2
  go_ret
  exact ⟨rfl, rfl⟩
theorem compare_any (a b : Int) (w : World) :
    Calls Tryd.prog 34 #[.int .i64 a, .int .i64 b] w fun e w' => e = .returned (.int .i64 (cmpI a b)) ∧ w = w' := by
  have H := fun x W => isNaN_any x W
  by_cases h1 : a < b
  · have hc : cmpI a b = -1 := by unfold cmpI; rw [if_pos h1]
    rw [hc]
    go_enter Tryd.func34, Tryd.ntmps34
    go_wp2_with (go_at_call 45; refine (H _ _).mono ?_; rintro e w' ⟨rfl, rfl⟩)
    go_ret
    exact ⟨rfl, rfl⟩
  · by_cases h2 : b < a
    · have hc : cmpI a b = 1 := by unfold cmpI; rw [if_neg h1, if_pos h2]
      rw [hc]
      go_enter Tryd.func34, Tryd.ntmps34
      go_wp2_with (go_at_call 45; refine (H _ _).mono ?_; rintro e w' ⟨rfl, rfl⟩)
      go_ret
      exact ⟨rfl, rfl⟩
    · have hc : cmpI a b = 0 := by unfold cmpI; rw [if_neg h1, if_neg h2]
      rw [hc]
      go_enter Tryd.func34, Tryd.ntmps34
      go_wp2_with (go_at_call 45; refine (H _ _).mono ?_; rintro e w' ⟨rfl, rfl⟩)
      go_ret
      exact ⟨rfl, rfl⟩
theorem or_any (g : Nat) (x y : Int) (w : World) (c0 : w.cell? ⟨g, 0, none⟩ = some (.int .i64 x)) (c1 : w.cell? ⟨g, 1, none⟩ = some (.int .i64 y)) :
    Calls Tryd.prog 33 #[.slice (some ⟨g, 0, none⟩) 2 2] w fun e w' => e = .returned (.int .i64 (if x = 0 then y else x)) ∧ w = w' := by
  by_cases hx : x = 0
  · subst hx
    rw [if_pos rfl]
    by_cases hy : y = 0
    · subst hy
      go_enter Tryd.func33, Tryd.ntmps33
      go_wp2
      refine wp_loop_rounds 3 ?_
      rw [rounds_succ]
      go_wp2
      rw [rounds_succ]
      go_wp2
      rw [rounds_succ]
      go_wp2
      go_ret
      exact ⟨rfl, rfl⟩
    · have hyb : (y == 0) = false := by simp [hy]
      go_enter Tryd.func33, Tryd.ntmps33
      go_wp2
      refine wp_loop_rounds 3 ?_
      rw [rounds_succ]
      go_wp2
      rw [rounds_succ]
      go_wp2
      go_ret
      exact ⟨rfl, rfl⟩
  · rw [if_neg hx]
    have hyb : (x == 0) = false := by simp [hx]
    go_enter Tryd.func33, Tryd.ntmps33
    go_wp2
    refine wp_loop_rounds 3 ?_
    rw [rounds_succ]
    go_wp2
    go_ret
    exact ⟨rfl, rfl⟩
theorem grow3 (w : World) (a b c : Obj) : (((w.alloc a).alloc b).drew).alloc c = grow (w.drewN 1) #[a, b, c] := by
  simp only [alloc_eq_grow]
  show ({ w with heap := ((w.heap ++ #[a]) ++ #[b]) ++ #[c], drawn := w.drawn + 1 } : World) = { w with heap := w.heap ++ #[a, b, c], drawn := w.drawn + 1 }
  congr 1
set_option maxRecDepth 100000 in
set_option maxHeartbeats 4000000 in
theorem sort1_any (x y : R2) (w : World) :
    Calls Tryd.prog 32 #[aggR x, aggR y] w fun e w' => e = .returned (.int .i64 (cmpR x y)) ∧ ∃ q os', w' = grow (w.drewN q) os' := by
  obtain ⟨x1, x2⟩ := x
  obtain ⟨y1, y2⟩ := y
  unfold aggR
  dsimp only
  have hA := fun W => compare_any x1 y1 W
  have hB := fun W => compare_any x2 y2 W
  have hO := fun g W c0 c1 => or_any g (cmpI x1 y1) (cmpI x2 y2) W c0 c1
  have hR : (if cmpI x1 y1 = 0 then cmpI x2 y2 else cmpI x1 y1) = cmpR (x1, x2) (y1, y2) := rfl
  rw [hR] at hO
  generalize cmpR (x1, x2) (y1, y2) = r at *
  generalize cmpI x1 y1 = p at *
  generalize cmpI x2 y2 = q at *
  clear hR
  go_enter Tryd.func32, Tryd.ntmps32
  go_wp2
  obtain ⟨b, hb⟩ : ∃ b, w.heap.size = b := ⟨_, rfl⟩
  have p0 : ((w.alloc (.cells #[.int .i64 x1, .int .i64 x2] 24)).alloc (.cells #[.int .i64 y1, .int .i64 y2] 24)).cell? ⟨b, 0, none⟩ = some (.int .i64 x1) := by rw [← hb]; simp
  have p1 : ((w.alloc (.cells #[.int .i64 x1, .int .i64 x2] 24)).alloc (.cells #[.int .i64 y1, .int .i64 y2] 24)).cell? ⟨b, 1, none⟩ = some (.int .i64 x2) := by rw [← hb]; simp
  have q0 : ((w.alloc (.cells #[.int .i64 x1, .int .i64 x2] 24)).alloc (.cells #[.int .i64 y1, .int .i64 y2] 24)).cell? ⟨b + 1, 0, none⟩ = some (.int .i64 y1) := by rw [← hb]; simp
  have q1 : ((w.alloc (.cells #[.int .i64 x1, .int .i64 x2] 24)).alloc (.cells #[.int .i64 y1, .int .i64 y2] 24)).cell? ⟨b + 1, 1, none⟩ = some (.int .i64 y2) := by rw [← hb]; simp
  have HG := Lib.hid (fun c => grow3 w (.cells #[.int .i64 x1, .int .i64 x2] 24) (.cells #[.int .i64 y1, .int .i64 y2] 24) c)
  rw [hb]
  clear hb
  generalize (w.alloc (.cells #[.int .i64 x1, .int .i64 x2] 24)).alloc (.cells #[.int .i64 y1, .int .i64 y2] 24) = w2 at *
  refine wp_region_N (S := (fun w' => w'.cell? ⟨b, 0, none⟩ = some (.int .i64 x1) ∧ w'.cell? ⟨b, 1, none⟩ = some (.int .i64 x2) ∧ w'.cell? ⟨b + 1, 0, none⟩ = some (.int .i64 y1) ∧ w'.cell? ⟨b + 1, 1, none⟩ = some (.int .i64 y2))) (fun i => !(i == 10 || i == 11 || i == 12)) (by kernel_rfl) ?_ (fun hHeld => ?_)
  · (try dsimp only)
    exact ⟨p0, p1, q0, q1⟩
  refine wpAnyN_take [1, 4, 9, 10, 11, 12] (i := 0) (v := ?_) rfl (by kernel_rfl) (by kernel_rfl) (by kernel_rfl) (by kernel_rfl) (by kernel_rfl) (fun _ _ _ h => h) (Or.inl ⟨by first | kernel_rfl | rfl, ?_⟩) (by assumption) ?_
  rotate_left
  focus
    intro w hSw
    (try dsimp only at hSw)
    go_simp
    try with_reducible rfl
  (try change wpAnyN _ _ _ _ _ _ _ _ (Act.put _ (some 5) _) _)
  try (unfold Act.put; dsimp only)
  refine wpAnyN_take [4, 9, 10, 11, 12] (i := 1) (v := ?_) rfl (by kernel_rfl) (by kernel_rfl) (by kernel_rfl) (by kernel_rfl) (by kernel_rfl) (fun _ _ _ h => h) (Or.inl ⟨by first | kernel_rfl | rfl, ?_⟩) (by assumption) ?_
  rotate_left
  focus
    intro w hSw
    (try dsimp only at hSw)
    go_simp
    try with_reducible rfl
  (try change wpAnyN _ _ _ _ _ _ _ _ (Act.put _ (some 6) _) _)
  try (unfold Act.put; dsimp only)
  refine wpAnyN_take [3, 4, 9, 10, 11, 12] (i := 2) (v := ?_) rfl (by kernel_rfl) (by kernel_rfl) (by kernel_rfl) (by kernel_rfl) (by kernel_rfl) (fun _ _ _ h => h) (Or.inl ⟨by first | kernel_rfl | rfl, ?_⟩) (by assumption) ?_
  rotate_left
  focus
    intro w hSw
    (try dsimp only at hSw)
    go_simp
    try with_reducible rfl
  (try change wpAnyN _ _ _ _ _ _ _ _ (Act.put _ (some 7) _) _)
  try (unfold Act.put; dsimp only)
  refine wpAnyN_take [4, 9, 10, 11, 12] (i := 3) (v := ?_) rfl (by kernel_rfl) (by kernel_rfl) (by kernel_rfl) (by kernel_rfl) (by kernel_rfl) (fun _ _ _ h => h) (Or.inl ⟨by first | kernel_rfl | rfl, ?_⟩) (by assumption) ?_
  rotate_left
  focus
    intro w hSw
    (try dsimp only at hSw)
    go_simp
    try with_reducible rfl
  (try change wpAnyN _ _ _ _ _ _ _ _ (Act.put _ (some 8) _) _)
  try (unfold Act.put; dsimp only)
  refine wpAnyN_take [6, 9, 10, 11, 12] (i := 5) (v := ?_) rfl (by kernel_rfl) (by kernel_rfl) (by kernel_rfl) (by kernel_rfl) (by kernel_rfl) (fun _ _ _ h => h) (Or.inl ⟨by first | kernel_rfl | rfl, ?_⟩) (by assumption) ?_
  rotate_left
  focus
    intro w hSw
    (try dsimp only at hSw)
    go_simp
    try with_reducible rfl
  (try change wpAnyN _ _ _ _ _ _ _ _ (Act.put _ (some 10) _) _)
  try (unfold Act.put; dsimp only)
  refine wpAnyN_take [9, 10, 11, 12] (i := 6) (v := ?_) rfl (by kernel_rfl) (by kernel_rfl) (by kernel_rfl) (by kernel_rfl) (by kernel_rfl) (fun _ _ _ h => h) (Or.inl ⟨by first | kernel_rfl | rfl, ?_⟩) (by assumption) ?_
  rotate_left
  focus
    intro w hSw
    (try dsimp only at hSw)
    go_simp
    try with_reducible rfl
  (try change wpAnyN _ _ _ _ _ _ _ _ (Act.put _ (some 11) _) _)
  try (unfold Act.put; dsimp only)
  refine wpAnyN_take [8, 9, 10, 11, 12] (i := 7) (v := ?_) rfl (by kernel_rfl) (by kernel_rfl) (by kernel_rfl) (by kernel_rfl) (by kernel_rfl) (fun _ _ _ h => h) (Or.inl ⟨by first | kernel_rfl | rfl, ?_⟩) (by assumption) ?_
  rotate_left
  focus
    intro w hSw
    (try dsimp only at hSw)
    go_simp
    try with_reducible rfl
  (try change wpAnyN _ _ _ _ _ _ _ _ (Act.put _ (some 12) _) _)
  try (unfold Act.put; dsimp only)
  refine wpAnyN_take [9, 10, 11, 12] (i := 8) (v := ?_) rfl (by kernel_rfl) (by kernel_rfl) (by kernel_rfl) (by kernel_rfl) (by kernel_rfl) (fun _ _ _ h => h) (Or.inl ⟨by first | kernel_rfl | rfl, ?_⟩) (by assumption) ?_
  rotate_left
  focus
    intro w hSw
    (try dsimp only at hSw)
    go_simp
    try with_reducible rfl
  (try change wpAnyN _ _ _ _ _ _ _ _ (Act.put _ (some 13) _) _)
  try (unfold Act.put; dsimp only)
  refine wpAnyN_ready (rs := [4]) (by kernel_rfl) (by simp) ?_
  refine AllReadyN.cons rfl (fun K hK => ?_) ?_
  · go_simp
    go_at_call 34
    refine (hA _).mono ?_
    rintro e wq ⟨rfl, rfl⟩
    dsimp only
    refine hK.out _ _ ?_ (fun hHeld => ?_)
    · (try dsimp only)
      exact ⟨p0, p1, q0, q1⟩
    clear hK K
    (try change wpAnyN _ _ _ _ _ _ _ _ (Act.put _ (some 9) _) _)
    try (unfold Act.put; dsimp only)
    refine wpAnyN_ready (rs := [9]) (by kernel_rfl) (by simp) ?_
    refine AllReadyN.cons rfl (fun K hK => ?_) ?_
    · go_simp
      go_at_call 34
      refine (hB _).mono ?_
      rintro e wq ⟨rfl, rfl⟩
      dsimp only
      refine hK.out _ _ ?_ (fun hHeld => ?_)
      · (try dsimp only)
        exact ⟨p0, p1, q0, q1⟩
      clear hK K
      (try change wpAnyN _ _ _ _ _ _ _ _ (Act.put _ (some 14) _) _)
      try (unfold Act.put; dsimp only)
      refine wpAnyN_ready (rs := [10]) (by kernel_rfl) (by simp) ?_
      refine AllReadyN.last rfl rfl (fun K hK => ?_) ?_
      · go_simp
        refine hK.out _ _ ?_
        clear hK K
        (try change wpAnyN _ _ _ _ _ _ _ _ (Act.put _ (some 15) _) _)
        try (unfold Act.put; dsimp only)
        refine wpAnyN_ready (rs := [11]) (by kernel_rfl) (by simp) ?_
        refine AllReadyN.last rfl rfl (fun K hK => ?_) ?_
        · go_simp
          go_at_call 33
          refine (hO _ _ (by simp) (by simp)).mono ?_
          rintro e wq ⟨rfl, rfl⟩
          dsimp only
          refine hK.out _ _ ?_
          clear hK K
          (try change wpAnyN _ _ _ _ _ _ _ _ (Act.put _ (some 16) _) _)
          try (unfold Act.put; dsimp only)
          refine wpAnyN_ready (rs := [12]) (by kernel_rfl) (by simp) ?_
          refine AllReadyN.last rfl rfl (fun K hK => ?_) ?_
          · go_simp
            refine hK.out _ _ ?_
            clear hK K
            (try change wpAnyN _ _ _ _ _ _ _ _ (Act.put _ (some 4) _) _)
            try (unfold Act.put; dsimp only)
            refine wpAnyN_done (by kernel_rfl) ?_ _
            go_wp2
            go_ret
            exact ⟨rfl, 1, _, HG.out _⟩
          exact AllReadyN.nil
        exact AllReadyN.nil
      exact AllReadyN.nil
    exact AllReadyN.nil
  exact AllReadyN.nil
end Go.Proofs.YtonphamahnagfaaDoor

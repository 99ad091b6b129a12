/-
  TextEntries. No conditions beyond those that each theorem states.
-/
import Derived.Test.YtjpjlfjaapfnkaaGreatDoorMO
import Derived.Test.YtjpjlfjaapfnkaaGreatDoorMY
import Derived.Deep.RegionWith
namespace Go.Proofs.YtjpjlfjaapfnkaaGreatDoor
open Go.ChangeShapes Go.WideShapes Go.ChangeAt Go.RowKit
set_option linter.unusedVariables false
set_option linter.unusedSimpArgs false
section
variable {P : Program} {ops : Array Oper} {Q : Exit → Act → World → Prop} {md : Region.Mode} {S : World → Prop} {need : Nat → Bool}
theorem tk {i : Nat} {oi : Oper} {v : Value} {fuel : Nat} {listed : Array Bool} {a : Act} {w : World} (hi : ops[i]? = some oi)
    (hb : (Region.noSelect ops && (Region.free md ops listed i && ((Region.ready md ops listed).contains i && (needFor md ops need [] i && closedB md ops listed)))) = true)
    (hQ : ∀ c a w, Q (.panic c) (a.put oi.dst v) w → Q (.panic c) a w) (hy : YieldsIf P ops S oi v a) (hS : S w)
    (h : wpAnyN P md ops Q S need fuel (listed.setIfInBounds i true) (a.put oi.dst v) w) : wpAnyN P md ops Q S need (fuel + 1) listed a w := by
  simp only [Bool.and_eq_true] at hb
  obtain ⟨h1, h2, h3, h4, h5⟩ := hb
  exact wpAnyN_take [] hi h1 h2 h3 h4 h5 hQ hy hS h
end
theorem of_exact (k c t r m p : Int) (w : World) :
    Calls Tryz.prog 11 #[.agg #[.int .i64 k, .int .i64 c, .int .i64 t, .int .i64 r, .int .i64 m, .int .i64 p]] w fun e w' => e = .returned (.agg #[.int .i64 k, .int .i64 c, .int .i64 t, .int .i64 r, .int .i64 m, .int .i64 p]) ∧ (w.alloc (.cells #[.int .i64 k, .int .i64 c, .int .i64 t, .int .i64 r, .int .i64 m, .int .i64 p] 25)).alloc (.cells #[.int .i64 k, .int .i64 c, .int .i64 t, .int .i64 r, .int .i64 m, .int .i64 p] 33) = w' := by
  go_enter Tryz.func11, Tryz.ntmps11
  go_wp2
  go_returns
  exact ⟨rfl, rfl⟩
set_option maxRecDepth 100000 in
set_option maxHeartbeats 16000000 in
theorem textentries_true (E : Ent) (s : ByteArray) (w : World) (hT : TxW w) (hG : 9 ≤ w.heap.size) (hm : E.may = true) :
    Calls Tryz.prog 3 #[.agg (entA E), .string s] w fun e w' => e = .returned (.bool true) ∧ Below w.heap.size w w' := by
  have HE0 := Lib.hid (fun W (h : TxW W) => entry_any E W h)
  have HF0 := Lib.hid (fun W => rentry_any E W)
  rw [show errV (entE E) = .nilIface from by unfold entE errV; rw [hm]; rfl] at HE0
  rw [hm] at HF0
  obtain ⟨X, hX⟩ : ∃ x, bsA (entS E) = x := ⟨_, rfl⟩
  rw [hX] at HE0 HF0
  have HI := Lib.hid (is6_new w E 25)
  clear hm hX
  obtain ⟨c0, c1, c2, c3, c4, c5⟩ := E
  unfold entA at HI HE0 HF0 ⊢
  simp only at HI HE0 HF0 ⊢
  have hbA : Below w.heap.size w (w.alloc (.cells #[.int .i64 c0, .int .i64 c1, .int .i64 c2, .int .i64 c3, .int .i64 c4, .int .i64 c5] 25)) := (Below.refl _ _).alloc (Nat.le_refl _) _
  have HA := Lib.hid (alive_true (w.alloc (.cells #[.int .i64 c0, .int .i64 c1, .int .i64 c2, .int .i64 c3, .int .i64 c4, .int .i64 c5] 25)) (hT.below hbA) (Nat.le_trans hG hbA.size))
  have HT := Lib.hid hT
  have HG := Lib.hid hG
  clear hT hG
  have hxx : (X.toList == X.toList) = true := by simp
  by_cases hs : 200 < s.size
  · have hs' : (200 : Int) < (s.size : Int) := by omega
    go_enter Tryz.func3, Tryz.ntmps3
    go_wp2_with fail
    refine HA.out.mono ?_
    rintro e w1 ⟨rfl, hb1⟩
    go_wp2
    go_ret
    exact ⟨rfl, hbA.trans (hb1.mono hbA.size)⟩
  have hs' : ¬ (200 : Int) < (s.size : Int) := by omega
  have hs2 : s.size ≤ 200 := by omega
  go_enter Tryz.func3, Tryz.ntmps3
  go_wp2_with fail
  refine HA.out.mono ?_
  rintro e w1 ⟨rfl, hb1⟩
  have hb1' := hbA.trans (hb1.mono hbA.size)
  have HI1 := Lib.hid (HI.out.below hb1)
  obtain ⟨y0, y1, y2, y3, y4, y5⟩ := HI1.out
  clear HA HI
  go_wp2_with fail
  refine (of_any c0 c1 c2 c3 c4 c5 _).mono ?_
  rintro e w1a ⟨rfl, hb1a⟩
  have hb1a' := hb1'.trans (hb1a.mono hb1'.size)
  have HI1a := Lib.hid (HI1.out.below hb1a)
  clear y0 y1 y2 y3 y4 y5 HI1
  go_wp2_with fail
  refine (HE0.out _ (HT.out.below hb1a')).mono ?_
  rintro e w2 ⟨rfl, hb2⟩
  have hb2' := hb1a'.trans (hb2.mono hb1a'.size)
  obtain ⟨y0, y1, y2, y3, y4, y5⟩ := HI1a.out.below hb2
  clear HE0 HI1a
  go_wp2_with fail
  refine (HF0.out _).mono ?_
  rintro e w3 ⟨rfl, hb3⟩
  have hb3' := hb2'.trans (hb3.mono hb2'.size)
  clear y0 y1 y2 y3 y4 y5 HF0
  have HP := Lib.hid (parse_entry s w3 (HT.out.below hb3') (by omega) (Nat.le_trans HG.out hb3'.size))
  go_wp2_with fail
  refine HP.out.mono ?_
  rintro e w4 ⟨hE4, hb4⟩
  have hb4' := hb3'.trans (hb4.mono hb3'.size)
  clear HP
  cases hp : entP s.data.toList with
  | some x =>
    rw [hp] at hE4
    have HP0 := Lib.hid hp
    obtain ⟨x0, x1, x2, x3, x4, x5⟩ := x
    obtain rfl : e = .returned (.tuple #[.agg #[.int .i64 x0, .int .i64 x1, .int .i64 x2, .int .i64 x3, .int .i64 x4, .int .i64 x5], .nilIface]) := hE4
    clear hp
    have hbC : Below w4.heap.size w4 (w4.alloc (.cells #[.int .i64 x0, .int .i64 x1, .int .i64 x2, .int .i64 x3, .int .i64 x4, .int .i64 x5] 33)) := (Below.refl _ _).alloc (Nat.le_refl _) _
    have hbC' := hb4'.trans (hbC.mono hb4'.size)
    have HY := Lib.hid (is6_new w4 ⟨x0, x1, x2, x3, x4, x5⟩ 33)
    unfold entA at HY
    simp only at HY
    have HR := Lib.hid (rparse_entry s (w4.alloc (.cells #[.int .i64 x0, .int .i64 x1, .int .i64 x2, .int .i64 x3, .int .i64 x4, .int .i64 x5] 33)) (by omega))
    rw [entD_eq, HP0.out] at HR
    go_wp2_with fail
    refine HR.out.mono ?_
    rintro e w6 ⟨hE6, hb6⟩
    obtain rfl : e = .returned (.tuple #[.agg #[.int .i64 x0, .int .i64 x1, .int .i64 x2, .int .i64 x3, .int .i64 x4, .int .i64 x5], .bool true]) := hE6
    have hb6' := hbC'.trans (hb6.mono hbC'.size)
    have hbD : Below w6.heap.size w6 (w6.alloc (.cells #[.int .i64 x0, .int .i64 x1, .int .i64 x2, .int .i64 x3, .int .i64 x4, .int .i64 x5] 25)) := (Below.refl _ _).alloc (Nat.le_refl _) _
    have hbD' := hb6'.trans (hbD.mono hb6'.size)
    have hbY := hb6.trans (hbD.mono hb6.size)
    obtain ⟨w8, hw8⟩ : ∃ X, w6.alloc (.cells #[.int .i64 x0, .int .i64 x1, .int .i64 x2, .int .i64 x3, .int .i64 x4, .int .i64 x5] 25) = X := ⟨_, rfl⟩
    have HV := Lib.hid (is6_new w6 ⟨x0, x1, x2, x3, x4, x5⟩ 25)
    unfold entA at HV
    simp only at HV
    rw [hw8] at hbD' hbY HV
    have HW8 := Lib.hid hw8
    clear hbD hw8
    have HZ := Lib.hid (HY.out.below hbY)
    clear HR
    have HC5 := Lib.hid (fun W => code_errno 5 W (by decide) (by decide))
    have HO := Lib.hid (fun W => of_exact x0 x1 x2 x3 x4 x5 W)
    have hbE : Below w8.heap.size w8 ((w8.alloc (.cells #[.int .i64 x0, .int .i64 x1, .int .i64 x2, .int .i64 x3, .int .i64 x4, .int .i64 x5] 25)).alloc (.cells #[.int .i64 x0, .int .i64 x1, .int .i64 x2, .int .i64 x3, .int .i64 x4, .int .i64 x5] 33)) := ((Below.refl _ _).alloc (Nat.le_refl _) _).alloc (by simp) _
    have HBF := Lib.hid (hbD'.trans (hbE.mono hbD'.size))
    have HZE := Lib.hid (HZ.out.below hbE)
    have HVE := Lib.hid (HV.out.below hbE)
    have HS8 := Lib.hid (And.intro HZ.out HV.out)
    have HS9 := Lib.hid (And.intro HZE.out HVE.out)
    clear hbE
    go_wp2_with fail
    rw [HW8.out]
    refine wp_region_N (S := (fun w' => (w'.cell? ⟨w4.heap.size, 0, none⟩ = some (.int .i64 x0) ∧ w'.cell? ⟨w4.heap.size, 1, none⟩ = some (.int .i64 x1) ∧ w'.cell? ⟨w4.heap.size, 2, none⟩ = some (.int .i64 x2) ∧ w'.cell? ⟨w4.heap.size, 3, none⟩ = some (.int .i64 x3) ∧ w'.cell? ⟨w4.heap.size, 4, none⟩ = some (.int .i64 x4) ∧ w'.cell? ⟨w4.heap.size, 5, none⟩ = some (.int .i64 x5)) ∧ (w'.cell? ⟨w6.heap.size, 0, none⟩ = some (.int .i64 x0) ∧ w'.cell? ⟨w6.heap.size, 1, none⟩ = some (.int .i64 x1) ∧ w'.cell? ⟨w6.heap.size, 2, none⟩ = some (.int .i64 x2) ∧ w'.cell? ⟨w6.heap.size, 3, none⟩ = some (.int .i64 x3) ∧ w'.cell? ⟨w6.heap.size, 4, none⟩ = some (.int .i64 x4) ∧ w'.cell? ⟨w6.heap.size, 5, none⟩ = some (.int .i64 x5)))) (fun i => true) (by kernel_rfl) ?_ (fun hHeld => ?_)
    · (try dsimp only)
      first
        | exact HS8.out
        | exact HS9.out
    refine tk (i := 0) (v := ?_) rfl (by kernel_rfl) (fun _ _ _ h => h) (Or.inl ⟨by first | kernel_rfl | rfl, ?_⟩) (by assumption) ?_
    rotate_left
    focus intro w hSw; (try dsimp only at hSw); go_simp; try with_reducible rfl
    try (unfold Act.put; dsimp only)
    refine tk (i := 1) (v := ?_) rfl (by kernel_rfl) (fun _ _ _ h => h) (Or.inl ⟨by first | kernel_rfl | rfl, ?_⟩) (by assumption) ?_
    rotate_left
    focus intro w hSw; (try dsimp only at hSw); go_simp; try with_reducible rfl
    try (unfold Act.put; dsimp only)
    refine tk (i := 2) (v := ?_) rfl (by kernel_rfl) (fun _ _ _ h => h) (Or.inl ⟨by first | kernel_rfl | rfl, ?_⟩) (by assumption) ?_
    rotate_left
    focus intro w hSw; (try dsimp only at hSw); go_simp; try with_reducible rfl
    try (unfold Act.put; dsimp only)
    refine tk (i := 3) (v := ?_) rfl (by kernel_rfl) (fun _ _ _ h => h) (Or.inl ⟨by first | kernel_rfl | rfl, ?_⟩) (by assumption) ?_
    rotate_left
    focus intro w hSw; (try dsimp only at hSw); go_simp; try with_reducible rfl
    try (unfold Act.put; dsimp only)
    refine tk (i := 4) (v := ?_) rfl (by kernel_rfl) (fun _ _ _ h => h) (Or.inl ⟨by first | kernel_rfl | rfl, ?_⟩) (by assumption) ?_
    rotate_left
    focus intro w hSw; (try dsimp only at hSw); go_simp; try with_reducible rfl
    try (unfold Act.put; dsimp only)
    refine tk (i := 5) (v := ?_) rfl (by kernel_rfl) (fun _ _ _ h => h) (Or.inl ⟨by first | kernel_rfl | rfl, ?_⟩) (by assumption) ?_
    rotate_left
    focus intro w hSw; (try dsimp only at hSw); go_simp; try with_reducible rfl
    try (unfold Act.put; dsimp only)
    refine tk (i := 6) (v := ?_) rfl (by kernel_rfl) (fun _ _ _ h => h) (Or.inl ⟨by first | kernel_rfl | rfl, ?_⟩) (by assumption) ?_
    rotate_left
    focus intro w hSw; (try dsimp only at hSw); go_simp; try with_reducible rfl
    try (unfold Act.put; dsimp only)
    refine tk (i := 7) (v := ?_) rfl (by kernel_rfl) (fun _ _ _ h => h) (Or.inl ⟨by first | kernel_rfl | rfl, ?_⟩) (by assumption) ?_
    rotate_left
    focus intro w hSw; (try dsimp only at hSw); go_simp; try with_reducible rfl
    try (unfold Act.put; dsimp only)
    refine tk (i := 8) (v := ?_) rfl (by kernel_rfl) (fun _ _ _ h => h) (Or.inl ⟨by first | kernel_rfl | rfl, ?_⟩) (by assumption) ?_
    rotate_left
    focus intro w hSw; (try dsimp only at hSw); go_simp; try with_reducible rfl
    try (unfold Act.put; dsimp only)
    refine tk (i := 9) (v := ?_) rfl (by kernel_rfl) (fun _ _ _ h => h) (Or.inl ⟨by first | kernel_rfl | rfl, ?_⟩) (by assumption) ?_
    rotate_left
    focus intro w hSw; (try dsimp only at hSw); go_simp; try with_reducible rfl
    try (unfold Act.put; dsimp only)
    refine tk (i := 10) (v := ?_) rfl (by kernel_rfl) (fun _ _ _ h => h) (Or.inl ⟨by first | kernel_rfl | rfl, ?_⟩) (by assumption) ?_
    rotate_left
    focus intro w hSw; (try dsimp only at hSw); go_simp; try with_reducible rfl
    try (unfold Act.put; dsimp only)
    refine tk (i := 11) (v := ?_) rfl (by kernel_rfl) (fun _ _ _ h => h) (Or.inl ⟨by first | kernel_rfl | rfl, ?_⟩) (by assumption) ?_
    rotate_left
    focus intro w hSw; (try dsimp only at hSw); go_simp; try with_reducible rfl
    try (unfold Act.put; dsimp only)
    refine tk (i := 12) (v := undef) rfl (by kernel_rfl) (fun _ _ _ h => h) (Or.inr ⟨by first | kernel_rfl | rfl, rfl⟩) (by assumption) ?_
    try (unfold Act.put; dsimp only)
    refine tk (i := 13) (v := undef) rfl (by kernel_rfl) (fun _ _ _ h => h) (Or.inr ⟨by first | kernel_rfl | rfl, rfl⟩) (by assumption) ?_
    try (unfold Act.put; dsimp only)
    refine tk (i := 14) (v := undef) rfl (by kernel_rfl) (fun _ _ _ h => h) (Or.inr ⟨by first | kernel_rfl | rfl, rfl⟩) (by assumption) ?_
    try (unfold Act.put; dsimp only)
    refine tk (i := 15) (v := ?_) rfl (by kernel_rfl) (fun _ _ _ h => h) (Or.inl ⟨by first | kernel_rfl | rfl, ?_⟩) (by assumption) ?_
    rotate_left
    focus intro w hSw; (try dsimp only at hSw); go_simp; try with_reducible rfl
    try (unfold Act.put; dsimp only)
    refine tk (i := 16) (v := ?_) rfl (by kernel_rfl) (fun _ _ _ h => h) (Or.inl ⟨by first | kernel_rfl | rfl, ?_⟩) (by assumption) ?_
    rotate_left
    focus intro w hSw; (try dsimp only at hSw); go_simp; try with_reducible rfl
    try (unfold Act.put; dsimp only)
    refine tk (i := 17) (v := ?_) rfl (by kernel_rfl) (fun _ _ _ h => h) (Or.inl ⟨by first | kernel_rfl | rfl, ?_⟩) (by assumption) ?_
    rotate_left
    focus intro w hSw; (try dsimp only at hSw); go_simp; try with_reducible rfl
    try (unfold Act.put; dsimp only)
    refine tk (i := 18) (v := ?_) rfl (by kernel_rfl) (fun _ _ _ h => h) (Or.inl ⟨by first | kernel_rfl | rfl, ?_⟩) (by assumption) ?_
    rotate_left
    focus intro w hSw; (try dsimp only at hSw); go_simp; try with_reducible rfl
    try (unfold Act.put; dsimp only)
    refine tk (i := 19) (v := ?_) rfl (by kernel_rfl) (fun _ _ _ h => h) (Or.inl ⟨by first | kernel_rfl | rfl, ?_⟩) (by assumption) ?_
    rotate_left
    focus intro w hSw; (try dsimp only at hSw); go_simp; try with_reducible rfl
    try (unfold Act.put; dsimp only)
    refine wpAnyN_ready (rs := [20]) (by kernel_rfl) (by simp) ?_
    refine AllReadyN.cons rfl (fun K hK => ?_) ?_
    · go_simp
      go_at_call 11
      refine (HO.out _).mono ?_
      rintro e wq ⟨rfl, rfl⟩
      dsimp only
      refine hK.out _ _ ?_ (fun hHeld => ?_)
      · (try dsimp only)
        first
          | exact HS8.out
          | exact HS9.out
      clear hK K
      try (unfold Act.put; dsimp only)
      refine tk (i := 21) (v := ?_) rfl (by kernel_rfl) (fun _ _ _ h => h) (Or.inl ⟨by first | kernel_rfl | rfl, ?_⟩) (by assumption) ?_
      rotate_left
      focus intro w hSw; (try dsimp only at hSw); go_simp; try with_reducible rfl
      try (unfold Act.put; dsimp only)
      refine tk (i := 22) (v := ?_) rfl (by kernel_rfl) (fun _ _ _ h => h) (Or.inl ⟨by first | kernel_rfl | rfl, ?_⟩) (by assumption) ?_
      rotate_left
      focus intro w hSw; (try dsimp only at hSw); go_simp; try with_reducible rfl
      try (unfold Act.put; dsimp only)
      refine tk (i := 23) (v := ?_) rfl (by kernel_rfl) (fun _ _ _ h => h) (Or.inl ⟨by first | kernel_rfl | rfl, ?_⟩) (by assumption) ?_
      rotate_left
      focus intro w hSw; (try dsimp only at hSw); go_simp; try with_reducible rfl
      try (unfold Act.put; dsimp only)
      refine tk (i := 24) (v := ?_) rfl (by kernel_rfl) (fun _ _ _ h => h) (Or.inl ⟨by first | kernel_rfl | rfl, ?_⟩) (by assumption) ?_
      rotate_left
      focus intro w hSw; (try dsimp only at hSw); go_simp; try with_reducible rfl
      try (unfold Act.put; dsimp only)
      refine tk (i := 25) (v := ?_) rfl (by kernel_rfl) (fun _ _ _ h => h) (Or.inl ⟨by first | kernel_rfl | rfl, ?_⟩) (by assumption) ?_
      rotate_left
      focus intro w hSw; (try dsimp only at hSw); go_simp; try with_reducible rfl
      try (unfold Act.put; dsimp only)
      refine tk (i := 26) (v := ?_) rfl (by kernel_rfl) (fun _ _ _ h => h) (Or.inl ⟨by first | kernel_rfl | rfl, ?_⟩) (by assumption) ?_
      rotate_left
      focus intro w hSw; (try dsimp only at hSw); go_simp; try with_reducible rfl
      try (unfold Act.put; dsimp only)
      refine tk (i := 27) (v := ?_) rfl (by kernel_rfl) (fun _ _ _ h => h) (Or.inl ⟨by first | kernel_rfl | rfl, ?_⟩) (by assumption) ?_
      rotate_left
      focus intro w hSw; (try dsimp only at hSw); go_simp; try with_reducible rfl
      try (unfold Act.put; dsimp only)
      refine tk (i := 28) (v := ?_) rfl (by kernel_rfl) (fun _ _ _ h => h) (Or.inl ⟨by first | kernel_rfl | rfl, ?_⟩) (by assumption) ?_
      rotate_left
      focus intro w hSw; (try dsimp only at hSw); go_simp; try with_reducible rfl
      try (unfold Act.put; dsimp only)
      refine tk (i := 29) (v := ?_) rfl (by kernel_rfl) (fun _ _ _ h => h) (Or.inl ⟨by first | kernel_rfl | rfl, ?_⟩) (by assumption) ?_
      rotate_left
      focus intro w hSw; (try dsimp only at hSw); go_simp; try with_reducible rfl
      try (unfold Act.put; dsimp only)
      refine tk (i := 30) (v := ?_) rfl (by kernel_rfl) (fun _ _ _ h => h) (Or.inl ⟨by first | kernel_rfl | rfl, ?_⟩) (by assumption) ?_
      rotate_left
      focus intro w hSw; (try dsimp only at hSw); go_simp; try with_reducible rfl
      try (unfold Act.put; dsimp only)
      refine tk (i := 31) (v := ?_) rfl (by kernel_rfl) (fun _ _ _ h => h) (Or.inl ⟨by first | kernel_rfl | rfl, ?_⟩) (by assumption) ?_
      rotate_left
      focus intro w hSw; (try dsimp only at hSw); go_simp; try with_reducible rfl
      try (unfold Act.put; dsimp only)
      refine tk (i := 32) (v := undef) rfl (by kernel_rfl) (fun _ _ _ h => h) (Or.inr ⟨by first | kernel_rfl | rfl, rfl⟩) (by assumption) ?_
      try (unfold Act.put; dsimp only)
      refine tk (i := 33) (v := undef) rfl (by kernel_rfl) (fun _ _ _ h => h) (Or.inr ⟨by first | kernel_rfl | rfl, rfl⟩) (by assumption) ?_
      try (unfold Act.put; dsimp only)
      refine tk (i := 34) (v := undef) rfl (by kernel_rfl) (fun _ _ _ h => h) (Or.inr ⟨by first | kernel_rfl | rfl, rfl⟩) (by assumption) ?_
      try (unfold Act.put; dsimp only)
      refine tk (i := 35) (v := ?_) rfl (by kernel_rfl) (fun _ _ _ h => h) (Or.inl ⟨by first | kernel_rfl | rfl, ?_⟩) (by assumption) ?_
      rotate_left
      focus intro w hSw; (try dsimp only at hSw); go_simp; try with_reducible rfl
      try (unfold Act.put; dsimp only)
      refine tk (i := 36) (v := ?_) rfl (by kernel_rfl) (fun _ _ _ h => h) (Or.inl ⟨by first | kernel_rfl | rfl, ?_⟩) (by assumption) ?_
      rotate_left
      focus intro w hSw; (try dsimp only at hSw); go_simp; try with_reducible rfl
      try (unfold Act.put; dsimp only)
      refine tk (i := 37) (v := ?_) rfl (by kernel_rfl) (fun _ _ _ h => h) (Or.inl ⟨by first | kernel_rfl | rfl, ?_⟩) (by assumption) ?_
      rotate_left
      focus intro w hSw; (try dsimp only at hSw); go_simp; try with_reducible rfl
      try (unfold Act.put; dsimp only)
      refine wpAnyN_done (by kernel_rfl) ?_ _
      go_wp2
      go_ret
      refine ⟨?_, ?_⟩
      rotate_left
      · first
          | exact HBF.out
          | exact HBF.out.drew
          | go_grown
      · go_simp
    exact AllReadyN.nil
  | none =>
    rw [hp] at hE4
    have HP0 := Lib.hid hp
    obtain rfl : e = .returned (.tuple #[.agg #[.int .i64 0, .int .i64 0, .int .i64 0, .int .i64 0, .int .i64 0, .int .i64 0], .iface 70 (.int .i64 5)]) := hE4
    clear hp
    have hbC : Below w4.heap.size w4 (w4.alloc (.cells #[.int .i64 0, .int .i64 0, .int .i64 0, .int .i64 0, .int .i64 0, .int .i64 0] 33)) := (Below.refl _ _).alloc (Nat.le_refl _) _
    have hbC' := hb4'.trans (hbC.mono hb4'.size)
    have HY := Lib.hid (is6_new w4 ⟨0, 0, 0, 0, 0, 0⟩ 33)
    unfold entA at HY
    simp only at HY
    have HR := Lib.hid (rparse_entry s (w4.alloc (.cells #[.int .i64 0, .int .i64 0, .int .i64 0, .int .i64 0, .int .i64 0, .int .i64 0] 33)) (by omega))
    rw [entD_eq, HP0.out] at HR
    go_wp2_with fail
    refine HR.out.mono ?_
    rintro e w6 ⟨hE6, hb6⟩
    obtain rfl : e = .returned (.tuple #[.agg #[.int .i64 0, .int .i64 0, .int .i64 0, .int .i64 0, .int .i64 0, .int .i64 0], .bool false]) := hE6
    have hb6' := hbC'.trans (hb6.mono hbC'.size)
    have hbD : Below w6.heap.size w6 (w6.alloc (.cells #[.int .i64 0, .int .i64 0, .int .i64 0, .int .i64 0, .int .i64 0, .int .i64 0] 25)) := (Below.refl _ _).alloc (Nat.le_refl _) _
    have hbD' := hb6'.trans (hbD.mono hb6'.size)
    have hbY := hb6.trans (hbD.mono hb6.size)
    obtain ⟨w8, hw8⟩ : ∃ X, w6.alloc (.cells #[.int .i64 0, .int .i64 0, .int .i64 0, .int .i64 0, .int .i64 0, .int .i64 0] 25) = X := ⟨_, rfl⟩
    have HV := Lib.hid (is6_new w6 ⟨0, 0, 0, 0, 0, 0⟩ 25)
    unfold entA at HV
    simp only at HV
    rw [hw8] at hbD' hbY HV
    have HW8 := Lib.hid hw8
    clear hbD hw8
    have HZ := Lib.hid (HY.out.below hbY)
    clear HR
    have HC5 := Lib.hid (fun W => code_errno 5 W (by decide) (by decide))
    have HO := Lib.hid (fun W => of_exact 0 0 0 0 0 0 W)
    have hbE : Below w8.heap.size w8 ((w8.alloc (.cells #[.int .i64 0, .int .i64 0, .int .i64 0, .int .i64 0, .int .i64 0, .int .i64 0] 25)).alloc (.cells #[.int .i64 0, .int .i64 0, .int .i64 0, .int .i64 0, .int .i64 0, .int .i64 0] 33)) := ((Below.refl _ _).alloc (Nat.le_refl _) _).alloc (by simp) _
    have HBF := Lib.hid (hbD'.trans (hbE.mono hbD'.size))
    have HZE := Lib.hid (HZ.out.below hbE)
    have HVE := Lib.hid (HV.out.below hbE)
    have HS8 := Lib.hid (And.intro HZ.out HV.out)
    have HS9 := Lib.hid (And.intro HZE.out HVE.out)
    clear hbE
    go_wp2_with fail
    rw [HW8.out]
    refine wp_region_N (S := (fun w' => (w'.cell? ⟨w4.heap.size, 0, none⟩ = some (.int .i64 0) ∧ w'.cell? ⟨w4.heap.size, 1, none⟩ = some (.int .i64 0) ∧ w'.cell? ⟨w4.heap.size, 2, none⟩ = some (.int .i64 0) ∧ w'.cell? ⟨w4.heap.size, 3, none⟩ = some (.int .i64 0) ∧ w'.cell? ⟨w4.heap.size, 4, none⟩ = some (.int .i64 0) ∧ w'.cell? ⟨w4.heap.size, 5, none⟩ = some (.int .i64 0)) ∧ (w'.cell? ⟨w6.heap.size, 0, none⟩ = some (.int .i64 0) ∧ w'.cell? ⟨w6.heap.size, 1, none⟩ = some (.int .i64 0) ∧ w'.cell? ⟨w6.heap.size, 2, none⟩ = some (.int .i64 0) ∧ w'.cell? ⟨w6.heap.size, 3, none⟩ = some (.int .i64 0) ∧ w'.cell? ⟨w6.heap.size, 4, none⟩ = some (.int .i64 0) ∧ w'.cell? ⟨w6.heap.size, 5, none⟩ = some (.int .i64 0)))) (fun i => true) (by kernel_rfl) ?_ (fun hHeld => ?_)
    · (try dsimp only)
      first
        | exact HS8.out
        | exact HS9.out
    refine tk (i := 0) (v := ?_) rfl (by kernel_rfl) (fun _ _ _ h => h) (Or.inl ⟨by first | kernel_rfl | rfl, ?_⟩) (by assumption) ?_
    rotate_left
    focus intro w hSw; (try dsimp only at hSw); go_simp; try with_reducible rfl
    try (unfold Act.put; dsimp only)
    refine tk (i := 1) (v := ?_) rfl (by kernel_rfl) (fun _ _ _ h => h) (Or.inl ⟨by first | kernel_rfl | rfl, ?_⟩) (by assumption) ?_
    rotate_left
    focus intro w hSw; (try dsimp only at hSw); go_simp; try with_reducible rfl
    try (unfold Act.put; dsimp only)
    refine tk (i := 2) (v := ?_) rfl (by kernel_rfl) (fun _ _ _ h => h) (Or.inl ⟨by first | kernel_rfl | rfl, ?_⟩) (by assumption) ?_
    rotate_left
    focus intro w hSw; (try dsimp only at hSw); go_simp; try with_reducible rfl
    try (unfold Act.put; dsimp only)
    refine tk (i := 3) (v := ?_) rfl (by kernel_rfl) (fun _ _ _ h => h) (Or.inl ⟨by first | kernel_rfl | rfl, ?_⟩) (by assumption) ?_
    rotate_left
    focus intro w hSw; (try dsimp only at hSw); go_simp; try with_reducible rfl
    try (unfold Act.put; dsimp only)
    refine tk (i := 4) (v := ?_) rfl (by kernel_rfl) (fun _ _ _ h => h) (Or.inl ⟨by first | kernel_rfl | rfl, ?_⟩) (by assumption) ?_
    rotate_left
    focus intro w hSw; (try dsimp only at hSw); go_simp; try with_reducible rfl
    try (unfold Act.put; dsimp only)
    refine tk (i := 5) (v := ?_) rfl (by kernel_rfl) (fun _ _ _ h => h) (Or.inl ⟨by first | kernel_rfl | rfl, ?_⟩) (by assumption) ?_
    rotate_left
    focus intro w hSw; (try dsimp only at hSw); go_simp; try with_reducible rfl
    try (unfold Act.put; dsimp only)
    refine tk (i := 6) (v := ?_) rfl (by kernel_rfl) (fun _ _ _ h => h) (Or.inl ⟨by first | kernel_rfl | rfl, ?_⟩) (by assumption) ?_
    rotate_left
    focus intro w hSw; (try dsimp only at hSw); go_simp; try with_reducible rfl
    try (unfold Act.put; dsimp only)
    refine tk (i := 7) (v := ?_) rfl (by kernel_rfl) (fun _ _ _ h => h) (Or.inl ⟨by first | kernel_rfl | rfl, ?_⟩) (by assumption) ?_
    rotate_left
    focus intro w hSw; (try dsimp only at hSw); go_simp; try with_reducible rfl
    try (unfold Act.put; dsimp only)
    refine tk (i := 8) (v := ?_) rfl (by kernel_rfl) (fun _ _ _ h => h) (Or.inl ⟨by first | kernel_rfl | rfl, ?_⟩) (by assumption) ?_
    rotate_left
    focus intro w hSw; (try dsimp only at hSw); go_simp; try with_reducible rfl
    try (unfold Act.put; dsimp only)
    refine tk (i := 9) (v := ?_) rfl (by kernel_rfl) (fun _ _ _ h => h) (Or.inl ⟨by first | kernel_rfl | rfl, ?_⟩) (by assumption) ?_
    rotate_left
    focus intro w hSw; (try dsimp only at hSw); go_simp; try with_reducible rfl
    try (unfold Act.put; dsimp only)
    refine tk (i := 10) (v := ?_) rfl (by kernel_rfl) (fun _ _ _ h => h) (Or.inl ⟨by first | kernel_rfl | rfl, ?_⟩) (by assumption) ?_
    rotate_left
    focus intro w hSw; (try dsimp only at hSw); go_simp; try with_reducible rfl
    try (unfold Act.put; dsimp only)
    refine tk (i := 11) (v := ?_) rfl (by kernel_rfl) (fun _ _ _ h => h) (Or.inl ⟨by first | kernel_rfl | rfl, ?_⟩) (by assumption) ?_
    rotate_left
    focus intro w hSw; (try dsimp only at hSw); go_simp; try with_reducible rfl
    try (unfold Act.put; dsimp only)
    refine tk (i := 12) (v := undef) rfl (by kernel_rfl) (fun _ _ _ h => h) (Or.inr ⟨by first | kernel_rfl | rfl, rfl⟩) (by assumption) ?_
    try (unfold Act.put; dsimp only)
    refine tk (i := 13) (v := undef) rfl (by kernel_rfl) (fun _ _ _ h => h) (Or.inr ⟨by first | kernel_rfl | rfl, rfl⟩) (by assumption) ?_
    try (unfold Act.put; dsimp only)
    refine tk (i := 14) (v := undef) rfl (by kernel_rfl) (fun _ _ _ h => h) (Or.inr ⟨by first | kernel_rfl | rfl, rfl⟩) (by assumption) ?_
    try (unfold Act.put; dsimp only)
    refine tk (i := 15) (v := ?_) rfl (by kernel_rfl) (fun _ _ _ h => h) (Or.inl ⟨by first | kernel_rfl | rfl, ?_⟩) (by assumption) ?_
    rotate_left
    focus intro w hSw; (try dsimp only at hSw); go_simp; try with_reducible rfl
    try (unfold Act.put; dsimp only)
    refine tk (i := 16) (v := ?_) rfl (by kernel_rfl) (fun _ _ _ h => h) (Or.inl ⟨by first | kernel_rfl | rfl, ?_⟩) (by assumption) ?_
    rotate_left
    focus intro w hSw; (try dsimp only at hSw); go_simp; try with_reducible rfl
    try (unfold Act.put; dsimp only)
    refine tk (i := 17) (v := ?_) rfl (by kernel_rfl) (fun _ _ _ h => h) (Or.inl ⟨by first | kernel_rfl | rfl, ?_⟩) (by assumption) ?_
    rotate_left
    focus intro w hSw; (try dsimp only at hSw); go_simp; try with_reducible rfl
    try (unfold Act.put; dsimp only)
    refine tk (i := 18) (v := ?_) rfl (by kernel_rfl) (fun _ _ _ h => h) (Or.inl ⟨by first | kernel_rfl | rfl, ?_⟩) (by assumption) ?_
    rotate_left
    focus intro w hSw; (try dsimp only at hSw); go_simp; try with_reducible rfl
    try (unfold Act.put; dsimp only)
    refine tk (i := 19) (v := ?_) rfl (by kernel_rfl) (fun _ _ _ h => h) (Or.inl ⟨by first | kernel_rfl | rfl, ?_⟩) (by assumption) ?_
    rotate_left
    focus intro w hSw; (try dsimp only at hSw); go_simp; try with_reducible rfl
    try (unfold Act.put; dsimp only)
    refine wpAnyN_ready (rs := [20]) (by kernel_rfl) (by simp) ?_
    refine AllReadyN.cons rfl (fun K hK => ?_) ?_
    · go_simp
      go_at_call 11
      refine (HO.out _).mono ?_
      rintro e wq ⟨rfl, rfl⟩
      dsimp only
      refine hK.out _ _ ?_ (fun hHeld => ?_)
      · (try dsimp only)
        first
          | exact HS8.out
          | exact HS9.out
      clear hK K
      try (unfold Act.put; dsimp only)
      refine tk (i := 21) (v := ?_) rfl (by kernel_rfl) (fun _ _ _ h => h) (Or.inl ⟨by first | kernel_rfl | rfl, ?_⟩) (by assumption) ?_
      rotate_left
      focus intro w hSw; (try dsimp only at hSw); go_simp; try with_reducible rfl
      try (unfold Act.put; dsimp only)
      refine tk (i := 22) (v := ?_) rfl (by kernel_rfl) (fun _ _ _ h => h) (Or.inl ⟨by first | kernel_rfl | rfl, ?_⟩) (by assumption) ?_
      rotate_left
      focus intro w hSw; (try dsimp only at hSw); go_simp; try with_reducible rfl
      try (unfold Act.put; dsimp only)
      refine tk (i := 23) (v := ?_) rfl (by kernel_rfl) (fun _ _ _ h => h) (Or.inl ⟨by first | kernel_rfl | rfl, ?_⟩) (by assumption) ?_
      rotate_left
      focus intro w hSw; (try dsimp only at hSw); go_simp; try with_reducible rfl
      try (unfold Act.put; dsimp only)
      refine tk (i := 24) (v := ?_) rfl (by kernel_rfl) (fun _ _ _ h => h) (Or.inl ⟨by first | kernel_rfl | rfl, ?_⟩) (by assumption) ?_
      rotate_left
      focus intro w hSw; (try dsimp only at hSw); go_simp; try with_reducible rfl
      try (unfold Act.put; dsimp only)
      refine tk (i := 25) (v := ?_) rfl (by kernel_rfl) (fun _ _ _ h => h) (Or.inl ⟨by first | kernel_rfl | rfl, ?_⟩) (by assumption) ?_
      rotate_left
      focus intro w hSw; (try dsimp only at hSw); go_simp; try with_reducible rfl
      try (unfold Act.put; dsimp only)
      refine tk (i := 26) (v := ?_) rfl (by kernel_rfl) (fun _ _ _ h => h) (Or.inl ⟨by first | kernel_rfl | rfl, ?_⟩) (by assumption) ?_
      rotate_left
      focus intro w hSw; (try dsimp only at hSw); go_simp; try with_reducible rfl
      try (unfold Act.put; dsimp only)
      refine tk (i := 27) (v := ?_) rfl (by kernel_rfl) (fun _ _ _ h => h) (Or.inl ⟨by first | kernel_rfl | rfl, ?_⟩) (by assumption) ?_
      rotate_left
      focus intro w hSw; (try dsimp only at hSw); go_simp; try with_reducible rfl
      try (unfold Act.put; dsimp only)
      refine tk (i := 28) (v := ?_) rfl (by kernel_rfl) (fun _ _ _ h => h) (Or.inl ⟨by first | kernel_rfl | rfl, ?_⟩) (by assumption) ?_
      rotate_left
      focus intro w hSw; (try dsimp only at hSw); go_simp; try with_reducible rfl
      try (unfold Act.put; dsimp only)
      refine tk (i := 29) (v := ?_) rfl (by kernel_rfl) (fun _ _ _ h => h) (Or.inl ⟨by first | kernel_rfl | rfl, ?_⟩) (by assumption) ?_
      rotate_left
      focus intro w hSw; (try dsimp only at hSw); go_simp; try with_reducible rfl
      try (unfold Act.put; dsimp only)
      refine tk (i := 30) (v := ?_) rfl (by kernel_rfl) (fun _ _ _ h => h) (Or.inl ⟨by first | kernel_rfl | rfl, ?_⟩) (by assumption) ?_
      rotate_left
      focus intro w hSw; (try dsimp only at hSw); go_simp; try with_reducible rfl
      try (unfold Act.put; dsimp only)
      refine tk (i := 31) (v := ?_) rfl (by kernel_rfl) (fun _ _ _ h => h) (Or.inl ⟨by first | kernel_rfl | rfl, ?_⟩) (by assumption) ?_
      rotate_left
      focus intro w hSw; (try dsimp only at hSw); go_simp; try with_reducible rfl
      try (unfold Act.put; dsimp only)
      refine tk (i := 32) (v := ?_) rfl (by kernel_rfl) (fun _ _ _ h => h) (Or.inl ⟨by first | kernel_rfl | rfl, ?_⟩) (by assumption) ?_
      rotate_left
      focus intro w hSw; (try dsimp only at hSw); go_simp; try with_reducible rfl
      try (unfold Act.put; dsimp only)
      refine wpAnyN_ready (rs := [33]) (by kernel_rfl) (by simp) ?_
      refine AllReadyN.cons rfl (fun K hK => ?_) ?_
      · go_simp
        go_at_call 15
        refine (HC5.out _).mono ?_
        rintro e wq ⟨rfl, rfl⟩
        dsimp only
        refine hK.out _ _ ?_ (fun hHeld => ?_)
        · (try dsimp only)
          first
            | exact HS8.out
            | exact HS9.out
        clear hK K
        try (unfold Act.put; dsimp only)
        refine tk (i := 34) (v := ?_) rfl (by kernel_rfl) (fun _ _ _ h => h) (Or.inl ⟨by first | kernel_rfl | rfl, ?_⟩) (by assumption) ?_
        rotate_left
        focus intro w hSw; (try dsimp only at hSw); go_simp; try with_reducible rfl
        try (unfold Act.put; dsimp only)
        refine tk (i := 35) (v := ?_) rfl (by kernel_rfl) (fun _ _ _ h => h) (Or.inl ⟨by first | kernel_rfl | rfl, ?_⟩) (by assumption) ?_
        rotate_left
        focus intro w hSw; (try dsimp only at hSw); go_simp; try with_reducible rfl
        try (unfold Act.put; dsimp only)
        refine tk (i := 36) (v := ?_) rfl (by kernel_rfl) (fun _ _ _ h => h) (Or.inl ⟨by first | kernel_rfl | rfl, ?_⟩) (by assumption) ?_
        rotate_left
        focus intro w hSw; (try dsimp only at hSw); go_simp; try with_reducible rfl
        try (unfold Act.put; dsimp only)
        refine tk (i := 37) (v := ?_) rfl (by kernel_rfl) (fun _ _ _ h => h) (Or.inl ⟨by first | kernel_rfl | rfl, ?_⟩) (by assumption) ?_
        rotate_left
        focus intro w hSw; (try dsimp only at hSw); go_simp; try with_reducible rfl
        try (unfold Act.put; dsimp only)
        refine wpAnyN_done (by kernel_rfl) ?_ _
        go_wp2
        go_ret
        refine ⟨?_, ?_⟩
        rotate_left
        · first
            | exact HBF.out
            | exact HBF.out.drew
            | go_grown
        · go_simp
      exact AllReadyN.nil
    exact AllReadyN.nil
set_option maxRecDepth 100000 in
set_option maxHeartbeats 16000000 in
theorem textentries_false (E : Ent) (s : ByteArray) (w : World) (hT : TxW w) (hG : 9 ≤ w.heap.size) (hm : E.may = false) :
    Calls Tryz.prog 3 #[.agg (entA E), .string s] w fun e w' => e = .returned (.bool true) ∧ Below w.heap.size w w' := by
  have HE0 := Lib.hid (fun W (h : TxW W) => entry_any E W h)
  have HF0 := Lib.hid (fun W => rentry_any E W)
  rw [show errV (entE E) = .iface 70 (.int .i64 5) from by unfold entE errV; rw [hm]; rfl] at HE0
  rw [hm] at HF0
  obtain ⟨X, hX⟩ : ∃ x, bsA (entS E) = x := ⟨_, rfl⟩
  rw [hX] at HE0 HF0
  have HI := Lib.hid (is6_new w E 25)
  clear hm hX
  obtain ⟨c0, c1, c2, c3, c4, c5⟩ := E
  unfold entA at HI HE0 HF0 ⊢
  simp only at HI HE0 HF0 ⊢
  have hbA : Below w.heap.size w (w.alloc (.cells #[.int .i64 c0, .int .i64 c1, .int .i64 c2, .int .i64 c3, .int .i64 c4, .int .i64 c5] 25)) := (Below.refl _ _).alloc (Nat.le_refl _) _
  have HA := Lib.hid (alive_true (w.alloc (.cells #[.int .i64 c0, .int .i64 c1, .int .i64 c2, .int .i64 c3, .int .i64 c4, .int .i64 c5] 25)) (hT.below hbA) (Nat.le_trans hG hbA.size))
  have HT := Lib.hid hT
  have HG := Lib.hid hG
  clear hT hG
  have hxx : (X.toList == X.toList) = true := by simp
  by_cases hs : 200 < s.size
  · have hs' : (200 : Int) < (s.size : Int) := by omega
    go_enter Tryz.func3, Tryz.ntmps3
    go_wp2_with fail
    refine HA.out.mono ?_
    rintro e w1 ⟨rfl, hb1⟩
    go_wp2
    go_ret
    exact ⟨rfl, hbA.trans (hb1.mono hbA.size)⟩
  have hs' : ¬ (200 : Int) < (s.size : Int) := by omega
  have hs2 : s.size ≤ 200 := by omega
  go_enter Tryz.func3, Tryz.ntmps3
  go_wp2_with fail
  refine HA.out.mono ?_
  rintro e w1 ⟨rfl, hb1⟩
  have hb1' := hbA.trans (hb1.mono hbA.size)
  have HI1 := Lib.hid (HI.out.below hb1)
  obtain ⟨y0, y1, y2, y3, y4, y5⟩ := HI1.out
  clear HA HI
  go_wp2_with fail
  refine (of_any c0 c1 c2 c3 c4 c5 _).mono ?_
  rintro e w1a ⟨rfl, hb1a⟩
  have hb1a' := hb1'.trans (hb1a.mono hb1'.size)
  have HI1a := Lib.hid (HI1.out.below hb1a)
  clear y0 y1 y2 y3 y4 y5 HI1
  go_wp2_with fail
  refine (HE0.out _ (HT.out.below hb1a')).mono ?_
  rintro e w2 ⟨rfl, hb2⟩
  have hb2' := hb1a'.trans (hb2.mono hb1a'.size)
  obtain ⟨y0, y1, y2, y3, y4, y5⟩ := HI1a.out.below hb2
  clear HE0 HI1a
  go_wp2_with fail
  refine (HF0.out _).mono ?_
  rintro e w3 ⟨rfl, hb3⟩
  have hb3' := hb2'.trans (hb3.mono hb2'.size)
  clear y0 y1 y2 y3 y4 y5 HF0
  have HP := Lib.hid (parse_entry s w3 (HT.out.below hb3') (by omega) (Nat.le_trans HG.out hb3'.size))
  go_wp2_with fail
  refine HP.out.mono ?_
  rintro e w4 ⟨hE4, hb4⟩
  have hb4' := hb3'.trans (hb4.mono hb3'.size)
  clear HP
  cases hp : entP s.data.toList with
  | some x =>
    rw [hp] at hE4
    have HP0 := Lib.hid hp
    obtain ⟨x0, x1, x2, x3, x4, x5⟩ := x
    obtain rfl : e = .returned (.tuple #[.agg #[.int .i64 x0, .int .i64 x1, .int .i64 x2, .int .i64 x3, .int .i64 x4, .int .i64 x5], .nilIface]) := hE4
    clear hp
    have hbC : Below w4.heap.size w4 (w4.alloc (.cells #[.int .i64 x0, .int .i64 x1, .int .i64 x2, .int .i64 x3, .int .i64 x4, .int .i64 x5] 33)) := (Below.refl _ _).alloc (Nat.le_refl _) _
    have hbC' := hb4'.trans (hbC.mono hb4'.size)
    have HY := Lib.hid (is6_new w4 ⟨x0, x1, x2, x3, x4, x5⟩ 33)
    unfold entA at HY
    simp only at HY
    have HR := Lib.hid (rparse_entry s (w4.alloc (.cells #[.int .i64 x0, .int .i64 x1, .int .i64 x2, .int .i64 x3, .int .i64 x4, .int .i64 x5] 33)) (by omega))
    rw [entD_eq, HP0.out] at HR
    go_wp2_with fail
    refine HR.out.mono ?_
    rintro e w6 ⟨hE6, hb6⟩
    obtain rfl : e = .returned (.tuple #[.agg #[.int .i64 x0, .int .i64 x1, .int .i64 x2, .int .i64 x3, .int .i64 x4, .int .i64 x5], .bool true]) := hE6
    have hb6' := hbC'.trans (hb6.mono hbC'.size)
    have hbD : Below w6.heap.size w6 (w6.alloc (.cells #[.int .i64 x0, .int .i64 x1, .int .i64 x2, .int .i64 x3, .int .i64 x4, .int .i64 x5] 25)) := (Below.refl _ _).alloc (Nat.le_refl _) _
    have hbD' := hb6'.trans (hbD.mono hb6'.size)
    have hbY := hb6.trans (hbD.mono hb6.size)
    obtain ⟨w8, hw8⟩ : ∃ X, w6.alloc (.cells #[.int .i64 x0, .int .i64 x1, .int .i64 x2, .int .i64 x3, .int .i64 x4, .int .i64 x5] 25) = X := ⟨_, rfl⟩
    have HV := Lib.hid (is6_new w6 ⟨x0, x1, x2, x3, x4, x5⟩ 25)
    unfold entA at HV
    simp only at HV
    rw [hw8] at hbD' hbY HV
    have HW8 := Lib.hid hw8
    clear hbD hw8
    have HZ := Lib.hid (HY.out.below hbY)
    clear HR
    have HC5 := Lib.hid (fun W => code_errno 5 W (by decide) (by decide))
    have HO := Lib.hid (fun W => of_exact x0 x1 x2 x3 x4 x5 W)
    have hbE : Below w8.heap.size w8 ((w8.alloc (.cells #[.int .i64 x0, .int .i64 x1, .int .i64 x2, .int .i64 x3, .int .i64 x4, .int .i64 x5] 25)).alloc (.cells #[.int .i64 x0, .int .i64 x1, .int .i64 x2, .int .i64 x3, .int .i64 x4, .int .i64 x5] 33)) := ((Below.refl _ _).alloc (Nat.le_refl _) _).alloc (by simp) _
    have HBF := Lib.hid (hbD'.trans (hbE.mono hbD'.size))
    have HZE := Lib.hid (HZ.out.below hbE)
    have HVE := Lib.hid (HV.out.below hbE)
    have HS8 := Lib.hid (And.intro HZ.out HV.out)
    have HS9 := Lib.hid (And.intro HZE.out HVE.out)
    clear hbE
    go_wp2_with fail
    rw [HW8.out]
    refine wp_region_N (S := (fun w' => (w'.cell? ⟨w4.heap.size, 0, none⟩ = some (.int .i64 x0) ∧ w'.cell? ⟨w4.heap.size, 1, none⟩ = some (.int .i64 x1) ∧ w'.cell? ⟨w4.heap.size, 2, none⟩ = some (.int .i64 x2) ∧ w'.cell? ⟨w4.heap.size, 3, none⟩ = some (.int .i64 x3) ∧ w'.cell? ⟨w4.heap.size, 4, none⟩ = some (.int .i64 x4) ∧ w'.cell? ⟨w4.heap.size, 5, none⟩ = some (.int .i64 x5)) ∧ (w'.cell? ⟨w6.heap.size, 0, none⟩ = some (.int .i64 x0) ∧ w'.cell? ⟨w6.heap.size, 1, none⟩ = some (.int .i64 x1) ∧ w'.cell? ⟨w6.heap.size, 2, none⟩ = some (.int .i64 x2) ∧ w'.cell? ⟨w6.heap.size, 3, none⟩ = some (.int .i64 x3) ∧ w'.cell? ⟨w6.heap.size, 4, none⟩ = some (.int .i64 x4) ∧ w'.cell? ⟨w6.heap.size, 5, none⟩ = some (.int .i64 x5)))) (fun i => true) (by kernel_rfl) ?_ (fun hHeld => ?_)
    · (try dsimp only)
      first
        | exact HS8.out
        | exact HS9.out
    refine tk (i := 0) (v := ?_) rfl (by kernel_rfl) (fun _ _ _ h => h) (Or.inl ⟨by first | kernel_rfl | rfl, ?_⟩) (by assumption) ?_
    rotate_left
    focus intro w hSw; (try dsimp only at hSw); go_simp; try with_reducible rfl
    try (unfold Act.put; dsimp only)
    refine tk (i := 1) (v := ?_) rfl (by kernel_rfl) (fun _ _ _ h => h) (Or.inl ⟨by first | kernel_rfl | rfl, ?_⟩) (by assumption) ?_
    rotate_left
    focus intro w hSw; (try dsimp only at hSw); go_simp; try with_reducible rfl
    try (unfold Act.put; dsimp only)
    refine tk (i := 2) (v := ?_) rfl (by kernel_rfl) (fun _ _ _ h => h) (Or.inl ⟨by first | kernel_rfl | rfl, ?_⟩) (by assumption) ?_
    rotate_left
    focus intro w hSw; (try dsimp only at hSw); go_simp; try with_reducible rfl
    try (unfold Act.put; dsimp only)
    refine tk (i := 3) (v := ?_) rfl (by kernel_rfl) (fun _ _ _ h => h) (Or.inl ⟨by first | kernel_rfl | rfl, ?_⟩) (by assumption) ?_
    rotate_left
    focus intro w hSw; (try dsimp only at hSw); go_simp; try with_reducible rfl
    try (unfold Act.put; dsimp only)
    refine tk (i := 4) (v := ?_) rfl (by kernel_rfl) (fun _ _ _ h => h) (Or.inl ⟨by first | kernel_rfl | rfl, ?_⟩) (by assumption) ?_
    rotate_left
    focus intro w hSw; (try dsimp only at hSw); go_simp; try with_reducible rfl
    try (unfold Act.put; dsimp only)
    refine tk (i := 5) (v := ?_) rfl (by kernel_rfl) (fun _ _ _ h => h) (Or.inl ⟨by first | kernel_rfl | rfl, ?_⟩) (by assumption) ?_
    rotate_left
    focus intro w hSw; (try dsimp only at hSw); go_simp; try with_reducible rfl
    try (unfold Act.put; dsimp only)
    refine tk (i := 6) (v := ?_) rfl (by kernel_rfl) (fun _ _ _ h => h) (Or.inl ⟨by first | kernel_rfl | rfl, ?_⟩) (by assumption) ?_
    rotate_left
    focus intro w hSw; (try dsimp only at hSw); go_simp; try with_reducible rfl
    try (unfold Act.put; dsimp only)
    refine tk (i := 7) (v := ?_) rfl (by kernel_rfl) (fun _ _ _ h => h) (Or.inl ⟨by first | kernel_rfl | rfl, ?_⟩) (by assumption) ?_
    rotate_left
    focus intro w hSw; (try dsimp only at hSw); go_simp; try with_reducible rfl
    try (unfold Act.put; dsimp only)
    refine tk (i := 8) (v := ?_) rfl (by kernel_rfl) (fun _ _ _ h => h) (Or.inl ⟨by first | kernel_rfl | rfl, ?_⟩) (by assumption) ?_
    rotate_left
    focus intro w hSw; (try dsimp only at hSw); go_simp; try with_reducible rfl
    try (unfold Act.put; dsimp only)
    refine tk (i := 9) (v := ?_) rfl (by kernel_rfl) (fun _ _ _ h => h) (Or.inl ⟨by first | kernel_rfl | rfl, ?_⟩) (by assumption) ?_
    rotate_left
    focus intro w hSw; (try dsimp only at hSw); go_simp; try with_reducible rfl
    try (unfold Act.put; dsimp only)
    refine tk (i := 10) (v := ?_) rfl (by kernel_rfl) (fun _ _ _ h => h) (Or.inl ⟨by first | kernel_rfl | rfl, ?_⟩) (by assumption) ?_
    rotate_left
    focus intro w hSw; (try dsimp only at hSw); go_simp; try with_reducible rfl
    try (unfold Act.put; dsimp only)
    refine tk (i := 11) (v := ?_) rfl (by kernel_rfl) (fun _ _ _ h => h) (Or.inl ⟨by first | kernel_rfl | rfl, ?_⟩) (by assumption) ?_
    rotate_left
    focus intro w hSw; (try dsimp only at hSw); go_simp; try with_reducible rfl
    try (unfold Act.put; dsimp only)
    refine tk (i := 12) (v := ?_) rfl (by kernel_rfl) (fun _ _ _ h => h) (Or.inl ⟨by first | kernel_rfl | rfl, ?_⟩) (by assumption) ?_
    rotate_left
    focus intro w hSw; (try dsimp only at hSw); go_simp; try with_reducible rfl
    try (unfold Act.put; dsimp only)
    refine wpAnyN_ready (rs := [13]) (by kernel_rfl) (by simp) ?_
    refine AllReadyN.cons rfl (fun K hK => ?_) ?_
    · go_simp
      go_at_call 15
      refine (HC5.out _).mono ?_
      rintro e wq ⟨rfl, rfl⟩
      dsimp only
      refine hK.out _ _ ?_ (fun hHeld => ?_)
      · (try dsimp only)
        first
          | exact HS8.out
          | exact HS9.out
      clear hK K
      try (unfold Act.put; dsimp only)
      refine tk (i := 14) (v := ?_) rfl (by kernel_rfl) (fun _ _ _ h => h) (Or.inl ⟨by first | kernel_rfl | rfl, ?_⟩) (by assumption) ?_
      rotate_left
      focus intro w hSw; (try dsimp only at hSw); go_simp; try with_reducible rfl
      try (unfold Act.put; dsimp only)
      refine tk (i := 15) (v := ?_) rfl (by kernel_rfl) (fun _ _ _ h => h) (Or.inl ⟨by first | kernel_rfl | rfl, ?_⟩) (by assumption) ?_
      rotate_left
      focus intro w hSw; (try dsimp only at hSw); go_simp; try with_reducible rfl
      try (unfold Act.put; dsimp only)
      refine tk (i := 16) (v := ?_) rfl (by kernel_rfl) (fun _ _ _ h => h) (Or.inl ⟨by first | kernel_rfl | rfl, ?_⟩) (by assumption) ?_
      rotate_left
      focus intro w hSw; (try dsimp only at hSw); go_simp; try with_reducible rfl
      try (unfold Act.put; dsimp only)
      refine tk (i := 17) (v := ?_) rfl (by kernel_rfl) (fun _ _ _ h => h) (Or.inl ⟨by first | kernel_rfl | rfl, ?_⟩) (by assumption) ?_
      rotate_left
      focus intro w hSw; (try dsimp only at hSw); go_simp; try with_reducible rfl
      try (unfold Act.put; dsimp only)
      refine tk (i := 18) (v := ?_) rfl (by kernel_rfl) (fun _ _ _ h => h) (Or.inl ⟨by first | kernel_rfl | rfl, ?_⟩) (by assumption) ?_
      rotate_left
      focus intro w hSw; (try dsimp only at hSw); go_simp; try with_reducible rfl
      try (unfold Act.put; dsimp only)
      refine tk (i := 19) (v := ?_) rfl (by kernel_rfl) (fun _ _ _ h => h) (Or.inl ⟨by first | kernel_rfl | rfl, ?_⟩) (by assumption) ?_
      rotate_left
      focus intro w hSw; (try dsimp only at hSw); go_simp; try with_reducible rfl
      try (unfold Act.put; dsimp only)
      refine wpAnyN_ready (rs := [20]) (by kernel_rfl) (by simp) ?_
      refine AllReadyN.cons rfl (fun K hK => ?_) ?_
      · go_simp
        go_at_call 11
        refine (HO.out _).mono ?_
        rintro e wq ⟨rfl, rfl⟩
        dsimp only
        refine hK.out _ _ ?_ (fun hHeld => ?_)
        · (try dsimp only)
          first
            | exact HS8.out
            | exact HS9.out
        clear hK K
        try (unfold Act.put; dsimp only)
        refine tk (i := 21) (v := ?_) rfl (by kernel_rfl) (fun _ _ _ h => h) (Or.inl ⟨by first | kernel_rfl | rfl, ?_⟩) (by assumption) ?_
        rotate_left
        focus intro w hSw; (try dsimp only at hSw); go_simp; try with_reducible rfl
        try (unfold Act.put; dsimp only)
        refine tk (i := 22) (v := ?_) rfl (by kernel_rfl) (fun _ _ _ h => h) (Or.inl ⟨by first | kernel_rfl | rfl, ?_⟩) (by assumption) ?_
        rotate_left
        focus intro w hSw; (try dsimp only at hSw); go_simp; try with_reducible rfl
        try (unfold Act.put; dsimp only)
        refine tk (i := 23) (v := ?_) rfl (by kernel_rfl) (fun _ _ _ h => h) (Or.inl ⟨by first | kernel_rfl | rfl, ?_⟩) (by assumption) ?_
        rotate_left
        focus intro w hSw; (try dsimp only at hSw); go_simp; try with_reducible rfl
        try (unfold Act.put; dsimp only)
        refine tk (i := 24) (v := ?_) rfl (by kernel_rfl) (fun _ _ _ h => h) (Or.inl ⟨by first | kernel_rfl | rfl, ?_⟩) (by assumption) ?_
        rotate_left
        focus intro w hSw; (try dsimp only at hSw); go_simp; try with_reducible rfl
        try (unfold Act.put; dsimp only)
        refine tk (i := 25) (v := ?_) rfl (by kernel_rfl) (fun _ _ _ h => h) (Or.inl ⟨by first | kernel_rfl | rfl, ?_⟩) (by assumption) ?_
        rotate_left
        focus intro w hSw; (try dsimp only at hSw); go_simp; try with_reducible rfl
        try (unfold Act.put; dsimp only)
        refine tk (i := 26) (v := ?_) rfl (by kernel_rfl) (fun _ _ _ h => h) (Or.inl ⟨by first | kernel_rfl | rfl, ?_⟩) (by assumption) ?_
        rotate_left
        focus intro w hSw; (try dsimp only at hSw); go_simp; try with_reducible rfl
        try (unfold Act.put; dsimp only)
        refine tk (i := 27) (v := ?_) rfl (by kernel_rfl) (fun _ _ _ h => h) (Or.inl ⟨by first | kernel_rfl | rfl, ?_⟩) (by assumption) ?_
        rotate_left
        focus intro w hSw; (try dsimp only at hSw); go_simp; try with_reducible rfl
        try (unfold Act.put; dsimp only)
        refine tk (i := 28) (v := ?_) rfl (by kernel_rfl) (fun _ _ _ h => h) (Or.inl ⟨by first | kernel_rfl | rfl, ?_⟩) (by assumption) ?_
        rotate_left
        focus intro w hSw; (try dsimp only at hSw); go_simp; try with_reducible rfl
        try (unfold Act.put; dsimp only)
        refine tk (i := 29) (v := ?_) rfl (by kernel_rfl) (fun _ _ _ h => h) (Or.inl ⟨by first | kernel_rfl | rfl, ?_⟩) (by assumption) ?_
        rotate_left
        focus intro w hSw; (try dsimp only at hSw); go_simp; try with_reducible rfl
        try (unfold Act.put; dsimp only)
        refine tk (i := 30) (v := ?_) rfl (by kernel_rfl) (fun _ _ _ h => h) (Or.inl ⟨by first | kernel_rfl | rfl, ?_⟩) (by assumption) ?_
        rotate_left
        focus intro w hSw; (try dsimp only at hSw); go_simp; try with_reducible rfl
        try (unfold Act.put; dsimp only)
        refine tk (i := 31) (v := ?_) rfl (by kernel_rfl) (fun _ _ _ h => h) (Or.inl ⟨by first | kernel_rfl | rfl, ?_⟩) (by assumption) ?_
        rotate_left
        focus intro w hSw; (try dsimp only at hSw); go_simp; try with_reducible rfl
        try (unfold Act.put; dsimp only)
        refine tk (i := 32) (v := undef) rfl (by kernel_rfl) (fun _ _ _ h => h) (Or.inr ⟨by first | kernel_rfl | rfl, rfl⟩) (by assumption) ?_
        try (unfold Act.put; dsimp only)
        refine tk (i := 33) (v := undef) rfl (by kernel_rfl) (fun _ _ _ h => h) (Or.inr ⟨by first | kernel_rfl | rfl, rfl⟩) (by assumption) ?_
        try (unfold Act.put; dsimp only)
        refine tk (i := 34) (v := undef) rfl (by kernel_rfl) (fun _ _ _ h => h) (Or.inr ⟨by first | kernel_rfl | rfl, rfl⟩) (by assumption) ?_
        try (unfold Act.put; dsimp only)
        refine tk (i := 35) (v := ?_) rfl (by kernel_rfl) (fun _ _ _ h => h) (Or.inl ⟨by first | kernel_rfl | rfl, ?_⟩) (by assumption) ?_
        rotate_left
        focus intro w hSw; (try dsimp only at hSw); go_simp; try with_reducible rfl
        try (unfold Act.put; dsimp only)
        refine tk (i := 36) (v := ?_) rfl (by kernel_rfl) (fun _ _ _ h => h) (Or.inl ⟨by first | kernel_rfl | rfl, ?_⟩) (by assumption) ?_
        rotate_left
        focus intro w hSw; (try dsimp only at hSw); go_simp; try with_reducible rfl
        try (unfold Act.put; dsimp only)
        refine tk (i := 37) (v := ?_) rfl (by kernel_rfl) (fun _ _ _ h => h) (Or.inl ⟨by first | kernel_rfl | rfl, ?_⟩) (by assumption) ?_
        rotate_left
        focus intro w hSw; (try dsimp only at hSw); go_simp; try with_reducible rfl
        try (unfold Act.put; dsimp only)
        refine wpAnyN_done (by kernel_rfl) ?_ _
        go_wp2
        go_ret
        refine ⟨?_, ?_⟩
        rotate_left
        · first
            | exact HBF.out
            | exact HBF.out.drew
            | go_grown
        · go_simp
      exact AllReadyN.nil
    exact AllReadyN.nil
  | none =>
    rw [hp] at hE4
    have HP0 := Lib.hid hp
    obtain rfl : e = .returned (.tuple #[.agg #[.int .i64 0, .int .i64 0, .int .i64 0, .int .i64 0, .int .i64 0, .int .i64 0], .iface 70 (.int .i64 5)]) := hE4
    clear hp
    have hbC : Below w4.heap.size w4 (w4.alloc (.cells #[.int .i64 0, .int .i64 0, .int .i64 0, .int .i64 0, .int .i64 0, .int .i64 0] 33)) := (Below.refl _ _).alloc (Nat.le_refl _) _
    have hbC' := hb4'.trans (hbC.mono hb4'.size)
    have HY := Lib.hid (is6_new w4 ⟨0, 0, 0, 0, 0, 0⟩ 33)
    unfold entA at HY
    simp only at HY
    have HR := Lib.hid (rparse_entry s (w4.alloc (.cells #[.int .i64 0, .int .i64 0, .int .i64 0, .int .i64 0, .int .i64 0, .int .i64 0] 33)) (by omega))
    rw [entD_eq, HP0.out] at HR
    go_wp2_with fail
    refine HR.out.mono ?_
    rintro e w6 ⟨hE6, hb6⟩
    obtain rfl : e = .returned (.tuple #[.agg #[.int .i64 0, .int .i64 0, .int .i64 0, .int .i64 0, .int .i64 0, .int .i64 0], .bool false]) := hE6
    have hb6' := hbC'.trans (hb6.mono hbC'.size)
    have hbD : Below w6.heap.size w6 (w6.alloc (.cells #[.int .i64 0, .int .i64 0, .int .i64 0, .int .i64 0, .int .i64 0, .int .i64 0] 25)) := (Below.refl _ _).alloc (Nat.le_refl _) _
    have hbD' := hb6'.trans (hbD.mono hb6'.size)
    have hbY := hb6.trans (hbD.mono hb6.size)
    obtain ⟨w8, hw8⟩ : ∃ X, w6.alloc (.cells #[.int .i64 0, .int .i64 0, .int .i64 0, .int .i64 0, .int .i64 0, .int .i64 0] 25) = X := ⟨_, rfl⟩
    have HV := Lib.hid (is6_new w6 ⟨0, 0, 0, 0, 0, 0⟩ 25)
    unfold entA at HV
    simp only at HV
    rw [hw8] at hbD' hbY HV
    have HW8 := Lib.hid hw8
    clear hbD hw8
    have HZ := Lib.hid (HY.out.below hbY)
    clear HR
    have HC5 := Lib.hid (fun W => code_errno 5 W (by decide) (by decide))
    have HO := Lib.hid (fun W => of_exact 0 0 0 0 0 0 W)
    have hbE : Below w8.heap.size w8 ((w8.alloc (.cells #[.int .i64 0, .int .i64 0, .int .i64 0, .int .i64 0, .int .i64 0, .int .i64 0] 25)).alloc (.cells #[.int .i64 0, .int .i64 0, .int .i64 0, .int .i64 0, .int .i64 0, .int .i64 0] 33)) := ((Below.refl _ _).alloc (Nat.le_refl _) _).alloc (by simp) _
    have HBF := Lib.hid (hbD'.trans (hbE.mono hbD'.size))
    have HZE := Lib.hid (HZ.out.below hbE)
    have HVE := Lib.hid (HV.out.below hbE)
    have HS8 := Lib.hid (And.intro HZ.out HV.out)
    have HS9 := Lib.hid (And.intro HZE.out HVE.out)
    clear hbE
    go_wp2_with fail
    rw [HW8.out]
    refine wp_region_N (S := (fun w' => (w'.cell? ⟨w4.heap.size, 0, none⟩ = some (.int .i64 0) ∧ w'.cell? ⟨w4.heap.size, 1, none⟩ = some (.int .i64 0) ∧ w'.cell? ⟨w4.heap.size, 2, none⟩ = some (.int .i64 0) ∧ w'.cell? ⟨w4.heap.size, 3, none⟩ = some (.int .i64 0) ∧ w'.cell? ⟨w4.heap.size, 4, none⟩ = some (.int .i64 0) ∧ w'.cell? ⟨w4.heap.size, 5, none⟩ = some (.int .i64 0)) ∧ (w'.cell? ⟨w6.heap.size, 0, none⟩ = some (.int .i64 0) ∧ w'.cell? ⟨w6.heap.size, 1, none⟩ = some (.int .i64 0) ∧ w'.cell? ⟨w6.heap.size, 2, none⟩ = some (.int .i64 0) ∧ w'.cell? ⟨w6.heap.size, 3, none⟩ = some (.int .i64 0) ∧ w'.cell? ⟨w6.heap.size, 4, none⟩ = some (.int .i64 0) ∧ w'.cell? ⟨w6.heap.size, 5, none⟩ = some (.int .i64 0)))) (fun i => true) (by kernel_rfl) ?_ (fun hHeld => ?_)
    · (try dsimp only)
      first
        | exact HS8.out
        | exact HS9.out
    refine tk (i := 0) (v := ?_) rfl (by kernel_rfl) (fun _ _ _ h => h) (Or.inl ⟨by first | kernel_rfl | rfl, ?_⟩) (by assumption) ?_
    rotate_left
    focus intro w hSw; (try dsimp only at hSw); go_simp; try with_reducible rfl
    try (unfold Act.put; dsimp only)
    refine tk (i := 1) (v := ?_) rfl (by kernel_rfl) (fun _ _ _ h => h) (Or.inl ⟨by first | kernel_rfl | rfl, ?_⟩) (by assumption) ?_
    rotate_left
    focus intro w hSw; (try dsimp only at hSw); go_simp; try with_reducible rfl
    try (unfold Act.put; dsimp only)
    refine tk (i := 2) (v := ?_) rfl (by kernel_rfl) (fun _ _ _ h => h) (Or.inl ⟨by first | kernel_rfl | rfl, ?_⟩) (by assumption) ?_
    rotate_left
    focus intro w hSw; (try dsimp only at hSw); go_simp; try with_reducible rfl
    try (unfold Act.put; dsimp only)
    refine tk (i := 3) (v := ?_) rfl (by kernel_rfl) (fun _ _ _ h => h) (Or.inl ⟨by first | kernel_rfl | rfl, ?_⟩) (by assumption) ?_
    rotate_left
    focus intro w hSw; (try dsimp only at hSw); go_simp; try with_reducible rfl
    try (unfold Act.put; dsimp only)
    refine tk (i := 4) (v := ?_) rfl (by kernel_rfl) (fun _ _ _ h => h) (Or.inl ⟨by first | kernel_rfl | rfl, ?_⟩) (by assumption) ?_
    rotate_left
    focus intro w hSw; (try dsimp only at hSw); go_simp; try with_reducible rfl
    try (unfold Act.put; dsimp only)
    refine tk (i := 5) (v := ?_) rfl (by kernel_rfl) (fun _ _ _ h => h) (Or.inl ⟨by first | kernel_rfl | rfl, ?_⟩) (by assumption) ?_
    rotate_left
    focus intro w hSw; (try dsimp only at hSw); go_simp; try with_reducible rfl
    try (unfold Act.put; dsimp only)
    refine tk (i := 6) (v := ?_) rfl (by kernel_rfl) (fun _ _ _ h => h) (Or.inl ⟨by first | kernel_rfl | rfl, ?_⟩) (by assumption) ?_
    rotate_left
    focus intro w hSw; (try dsimp only at hSw); go_simp; try with_reducible rfl
    try (unfold Act.put; dsimp only)
    refine tk (i := 7) (v := ?_) rfl (by kernel_rfl) (fun _ _ _ h => h) (Or.inl ⟨by first | kernel_rfl | rfl, ?_⟩) (by assumption) ?_
    rotate_left
    focus intro w hSw; (try dsimp only at hSw); go_simp; try with_reducible rfl
    try (unfold Act.put; dsimp only)
    refine tk (i := 8) (v := ?_) rfl (by kernel_rfl) (fun _ _ _ h => h) (Or.inl ⟨by first | kernel_rfl | rfl, ?_⟩) (by assumption) ?_
    rotate_left
    focus intro w hSw; (try dsimp only at hSw); go_simp; try with_reducible rfl
    try (unfold Act.put; dsimp only)
    refine tk (i := 9) (v := ?_) rfl (by kernel_rfl) (fun _ _ _ h => h) (Or.inl ⟨by first | kernel_rfl | rfl, ?_⟩) (by assumption) ?_
    rotate_left
    focus intro w hSw; (try dsimp only at hSw); go_simp; try with_reducible rfl
    try (unfold Act.put; dsimp only)
    refine tk (i := 10) (v := ?_) rfl (by kernel_rfl) (fun _ _ _ h => h) (Or.inl ⟨by first | kernel_rfl | rfl, ?_⟩) (by assumption) ?_
    rotate_left
    focus intro w hSw; (try dsimp only at hSw); go_simp; try with_reducible rfl
    try (unfold Act.put; dsimp only)
    refine tk (i := 11) (v := ?_) rfl (by kernel_rfl) (fun _ _ _ h => h) (Or.inl ⟨by first | kernel_rfl | rfl, ?_⟩) (by assumption) ?_
    rotate_left
    focus intro w hSw; (try dsimp only at hSw); go_simp; try with_reducible rfl
    try (unfold Act.put; dsimp only)
    refine tk (i := 12) (v := ?_) rfl (by kernel_rfl) (fun _ _ _ h => h) (Or.inl ⟨by first | kernel_rfl | rfl, ?_⟩) (by assumption) ?_
    rotate_left
    focus intro w hSw; (try dsimp only at hSw); go_simp; try with_reducible rfl
    try (unfold Act.put; dsimp only)
    refine wpAnyN_ready (rs := [13]) (by kernel_rfl) (by simp) ?_
    refine AllReadyN.cons rfl (fun K hK => ?_) ?_
    · go_simp
      go_at_call 15
      refine (HC5.out _).mono ?_
      rintro e wq ⟨rfl, rfl⟩
      dsimp only
      refine hK.out _ _ ?_ (fun hHeld => ?_)
      · (try dsimp only)
        first
          | exact HS8.out
          | exact HS9.out
      clear hK K
      try (unfold Act.put; dsimp only)
      refine tk (i := 14) (v := ?_) rfl (by kernel_rfl) (fun _ _ _ h => h) (Or.inl ⟨by first | kernel_rfl | rfl, ?_⟩) (by assumption) ?_
      rotate_left
      focus intro w hSw; (try dsimp only at hSw); go_simp; try with_reducible rfl
      try (unfold Act.put; dsimp only)
      refine tk (i := 15) (v := ?_) rfl (by kernel_rfl) (fun _ _ _ h => h) (Or.inl ⟨by first | kernel_rfl | rfl, ?_⟩) (by assumption) ?_
      rotate_left
      focus intro w hSw; (try dsimp only at hSw); go_simp; try with_reducible rfl
      try (unfold Act.put; dsimp only)
      refine tk (i := 16) (v := ?_) rfl (by kernel_rfl) (fun _ _ _ h => h) (Or.inl ⟨by first | kernel_rfl | rfl, ?_⟩) (by assumption) ?_
      rotate_left
      focus intro w hSw; (try dsimp only at hSw); go_simp; try with_reducible rfl
      try (unfold Act.put; dsimp only)
      refine tk (i := 17) (v := ?_) rfl (by kernel_rfl) (fun _ _ _ h => h) (Or.inl ⟨by first | kernel_rfl | rfl, ?_⟩) (by assumption) ?_
      rotate_left
      focus intro w hSw; (try dsimp only at hSw); go_simp; try with_reducible rfl
      try (unfold Act.put; dsimp only)
      refine tk (i := 18) (v := ?_) rfl (by kernel_rfl) (fun _ _ _ h => h) (Or.inl ⟨by first | kernel_rfl | rfl, ?_⟩) (by assumption) ?_
      rotate_left
      focus intro w hSw; (try dsimp only at hSw); go_simp; try with_reducible rfl
      try (unfold Act.put; dsimp only)
      refine tk (i := 19) (v := ?_) rfl (by kernel_rfl) (fun _ _ _ h => h) (Or.inl ⟨by first | kernel_rfl | rfl, ?_⟩) (by assumption) ?_
      rotate_left
      focus intro w hSw; (try dsimp only at hSw); go_simp; try with_reducible rfl
      try (unfold Act.put; dsimp only)
      refine wpAnyN_ready (rs := [20]) (by kernel_rfl) (by simp) ?_
      refine AllReadyN.cons rfl (fun K hK => ?_) ?_
      · go_simp
        go_at_call 11
        refine (HO.out _).mono ?_
        rintro e wq ⟨rfl, rfl⟩
        dsimp only
        refine hK.out _ _ ?_ (fun hHeld => ?_)
        · (try dsimp only)
          first
            | exact HS8.out
            | exact HS9.out
        clear hK K
        try (unfold Act.put; dsimp only)
        refine tk (i := 21) (v := ?_) rfl (by kernel_rfl) (fun _ _ _ h => h) (Or.inl ⟨by first | kernel_rfl | rfl, ?_⟩) (by assumption) ?_
        rotate_left
        focus intro w hSw; (try dsimp only at hSw); go_simp; try with_reducible rfl
        try (unfold Act.put; dsimp only)
        refine tk (i := 22) (v := ?_) rfl (by kernel_rfl) (fun _ _ _ h => h) (Or.inl ⟨by first | kernel_rfl | rfl, ?_⟩) (by assumption) ?_
        rotate_left
        focus intro w hSw; (try dsimp only at hSw); go_simp; try with_reducible rfl
        try (unfold Act.put; dsimp only)
        refine tk (i := 23) (v := ?_) rfl (by kernel_rfl) (fun _ _ _ h => h) (Or.inl ⟨by first | kernel_rfl | rfl, ?_⟩) (by assumption) ?_
        rotate_left
        focus intro w hSw; (try dsimp only at hSw); go_simp; try with_reducible rfl
        try (unfold Act.put; dsimp only)
        refine tk (i := 24) (v := ?_) rfl (by kernel_rfl) (fun _ _ _ h => h) (Or.inl ⟨by first | kernel_rfl | rfl, ?_⟩) (by assumption) ?_
        rotate_left
        focus intro w hSw; (try dsimp only at hSw); go_simp; try with_reducible rfl
        try (unfold Act.put; dsimp only)
        refine tk (i := 25) (v := ?_) rfl (by kernel_rfl) (fun _ _ _ h => h) (Or.inl ⟨by first | kernel_rfl | rfl, ?_⟩) (by assumption) ?_
        rotate_left
        focus intro w hSw; (try dsimp only at hSw); go_simp; try with_reducible rfl
        try (unfold Act.put; dsimp only)
        refine tk (i := 26) (v := ?_) rfl (by kernel_rfl) (fun _ _ _ h => h) (Or.inl ⟨by first | kernel_rfl | rfl, ?_⟩) (by assumption) ?_
        rotate_left
        focus intro w hSw; (try dsimp only at hSw); go_simp; try with_reducible rfl
        try (unfold Act.put; dsimp only)
        refine tk (i := 27) (v := ?_) rfl (by kernel_rfl) (fun _ _ _ h => h) (Or.inl ⟨by first | kernel_rfl | rfl, ?_⟩) (by assumption) ?_
        rotate_left
        focus intro w hSw; (try dsimp only at hSw); go_simp; try with_reducible rfl
        try (unfold Act.put; dsimp only)
        refine tk (i := 28) (v := ?_) rfl (by kernel_rfl) (fun _ _ _ h => h) (Or.inl ⟨by first | kernel_rfl | rfl, ?_⟩) (by assumption) ?_
        rotate_left
        focus intro w hSw; (try dsimp only at hSw); go_simp; try with_reducible rfl
        try (unfold Act.put; dsimp only)
        refine tk (i := 29) (v := ?_) rfl (by kernel_rfl) (fun _ _ _ h => h) (Or.inl ⟨by first | kernel_rfl | rfl, ?_⟩) (by assumption) ?_
        rotate_left
        focus intro w hSw; (try dsimp only at hSw); go_simp; try with_reducible rfl
        try (unfold Act.put; dsimp only)
        refine tk (i := 30) (v := ?_) rfl (by kernel_rfl) (fun _ _ _ h => h) (Or.inl ⟨by first | kernel_rfl | rfl, ?_⟩) (by assumption) ?_
        rotate_left
        focus intro w hSw; (try dsimp only at hSw); go_simp; try with_reducible rfl
        try (unfold Act.put; dsimp only)
        refine tk (i := 31) (v := ?_) rfl (by kernel_rfl) (fun _ _ _ h => h) (Or.inl ⟨by first | kernel_rfl | rfl, ?_⟩) (by assumption) ?_
        rotate_left
        focus intro w hSw; (try dsimp only at hSw); go_simp; try with_reducible rfl
        try (unfold Act.put; dsimp only)
        refine tk (i := 32) (v := ?_) rfl (by kernel_rfl) (fun _ _ _ h => h) (Or.inl ⟨by first | kernel_rfl | rfl, ?_⟩) (by assumption) ?_
        rotate_left
        focus intro w hSw; (try dsimp only at hSw); go_simp; try with_reducible rfl
        try (unfold Act.put; dsimp only)
        refine wpAnyN_ready (rs := [33]) (by kernel_rfl) (by simp) ?_
        refine AllReadyN.cons rfl (fun K hK => ?_) ?_
        · go_simp
          go_at_call 15
          refine (HC5.out _).mono ?_
          rintro e wq ⟨rfl, rfl⟩
          dsimp only
          refine hK.out _ _ ?_ (fun hHeld => ?_)
          · (try dsimp only)
            first
              | exact HS8.out
              | exact HS9.out
          clear hK K
          try (unfold Act.put; dsimp only)
          refine tk (i := 34) (v := ?_) rfl (by kernel_rfl) (fun _ _ _ h => h) (Or.inl ⟨by first | kernel_rfl | rfl, ?_⟩) (by assumption) ?_
          rotate_left
          focus intro w hSw; (try dsimp only at hSw); go_simp; try with_reducible rfl
          try (unfold Act.put; dsimp only)
          refine tk (i := 35) (v := ?_) rfl (by kernel_rfl) (fun _ _ _ h => h) (Or.inl ⟨by first | kernel_rfl | rfl, ?_⟩) (by assumption) ?_
          rotate_left
          focus intro w hSw; (try dsimp only at hSw); go_simp; try with_reducible rfl
          try (unfold Act.put; dsimp only)
          refine tk (i := 36) (v := ?_) rfl (by kernel_rfl) (fun _ _ _ h => h) (Or.inl ⟨by first | kernel_rfl | rfl, ?_⟩) (by assumption) ?_
          rotate_left
          focus intro w hSw; (try dsimp only at hSw); go_simp; try with_reducible rfl
          try (unfold Act.put; dsimp only)
          refine tk (i := 37) (v := ?_) rfl (by kernel_rfl) (fun _ _ _ h => h) (Or.inl ⟨by first | kernel_rfl | rfl, ?_⟩) (by assumption) ?_
          rotate_left
          focus intro w hSw; (try dsimp only at hSw); go_simp; try with_reducible rfl
          try (unfold Act.put; dsimp only)
          refine wpAnyN_done (by kernel_rfl) ?_ _
          go_wp2
          go_ret
          refine ⟨?_, ?_⟩
          rotate_left
          · first
              | exact HBF.out
              | exact HBF.out.drew
              | go_grown
          · go_simp
        exact AllReadyN.nil
      exact AllReadyN.nil
    exact AllReadyN.nil
theorem textentries_true' (E : Ent) (s : ByteArray) (w : World) (hT : TxW w) (hG : 9 ≤ w.heap.size) :
    Calls Tryz.prog 3 #[.agg (entA E), .string s] w fun e w' => e = .returned (.bool true) ∧ Below w.heap.size w w' := by
  cases h : E.may
  · exact textentries_false E s w hT hG h
  · exact textentries_true E s w hT hG h
end Go.Proofs.YtjpjlfjaapfnkaaGreatDoor

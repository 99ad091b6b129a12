/-
  catchboltref03.Put, Take: over any bytes and numbers, whose lengths leave room. No other conditions.
-/
import Derived.Test.YtdbiigcabfnpfaaDoorWordP
import Derived.Test.YtdbiigcabfnpfaaDoorWordT
import Derived.Deep.QuietTactic
import Derived.BigQuiet
import Derived.Test.YtdbiigcabfnpfaaDoorRegN
namespace Go.Proofs.YtdbiigcabfnpfaaDoor
open Go.ChangeShapes Go.WideShapes Go.ChangeAt Go.RowKit
set_option linter.unusedVariables false

theorem below_drewN {B : Nat} {a w : World} (h : Below B a w) (n : Nat) : Below B a (w.drewN n) := ⟨h.os, h.tape, h.output, h.size, h.block⟩

set_option maxRecDepth 100000 in
set_option maxHeartbeats 400000 in
theorem rput_any (A L : Option Addr) (n c m cm : Nat) (zb zl : List Int) (width : Int) (w : World) (hl : zb.length = n) (h : RdN .u8 w A zb) (hm : zl.length = m) (hL : RdN .i64 w L zl)
    (hbig : n + 4 * m ≤ 140737488355328) (hwf : (Lit.int .i64 width).wf = true) :
    Calls Tryd.prog 9 #[.slice A n c, .int .i64 width, .slice L m cm] w fun e w' => (∃ A', (∃ c', e = .returned (.tuple #[.slice A' (putS width zb zl).1.length c', .int .i64 (putS width zb zl).2.2, .int .i64 (putS width zb zl).2.1])) ∧ RdN .u8 w' A' (putS width zb zl).1) ∧ Below w.heap.size w w' := by
  have HL := Lib.hid hl
  have HM := Lib.hid hm
  have HR := Lib.hid h
  have HRL := Lib.hid hL
  clear hl hm h hL
  rcases hok : okW width with _ | _
  · have HT := Lib.hid (putS_bad (zb := zb) (zl := zl) hok)
    have hno : width < 1 ∨ 4 < width := by
      have : ¬ (1 ≤ width ∧ width ≤ 4) := fun h => by rw [okW_iff.2 h] at hok; cases hok
      omega
    clear hok
    go_enter Tryd.func9, Tryd.ntmps9
    rcases hno with hno | hno
    · go_wp2
      all_goals
        go_ret3
        rw [HT.out]
        exact ⟨⟨none, ⟨0, rfl⟩, rdn_nil _ _ _⟩, Below.refl _ _⟩
    · have hno1 : ¬ width < 1 := by omega
      go_wp2
      all_goals
        go_ret3
        rw [HT.out]
        exact ⟨⟨none, ⟨0, rfl⟩, rdn_nil _ _ _⟩, Below.refl _ _⟩
  · obtain ⟨hw1, hw4⟩ := okW_iff.1 hok
    obtain ⟨W, rfl⟩ := Int.eq_ofNat_of_zero_le (show 0 ≤ width by omega)
    have hW1 : 1 ≤ W := by omega
    have hW4 : W ≤ 4 := by omega
    have HK := Lib.hid hok
    clear hok
    have hP := pow256_le hW4
    have hP0 := pow256_pos W
    have hB0 := firstBad_le W zl
    rw [HM.out] at hB0
    go_enter Tryd.func9, Tryd.ntmps9
    go_wp2
    go_loopw [9, 10] (fun o i wr => Below w.heap.size w wr ∧ ∃ k : Nat, k ≤ n ∧ i = .int .i64 k ∧ wr.ownsRow w.heap.size 5 1 o k (numV .u8 (zb.take k))) (fun _ i _ => n - (intOf i).toNat)
    case atStart => exact ⟨Below.refl _ _, 0, by omega, rfl, World.ownsRow_nil _ _ _ _⟩
    case round =>
      obtain ⟨hbr, k, hk, rfl, hown⟩ := hrel
      have hsr := hbr.size
      by_cases hkm : k < n
      · have hkm' : (k : Int) < n := by omega
        obtain ⟨q, off, hQ, hc⟩ := HR.out.below hbr
        obtain ⟨rfl, hq⟩ := hQ (by rw [HL.out]; omega)
        have cz := hc k (by rw [HL.out]; omega)
        have HSn := Lib.hid (take_snoc (l := zb) (k := k) (by rw [HL.out]; omega))
        clear hc hQ
        generalize zb.getD k 0 = z at *
        have hownA := hown.alloc (.cells #[.int .u8 z] 5)
        have hbA := hbr.alloc hsr (.cells #[.int .u8 z] 5)
        have hsA := hbA.size
        go_wp2_with (at_builtin; refine wpList_append_nums rfl _ _ rfl rfl Tryd.underlying22 u8_info (by decide) w.heap.size _ _ _ rfl hownA _ 1 1 _ rfl rfl (rdn_one .u8 _ _ _) hsA (by omega) ?_; intro v7 w7 hown7 hg7)
        refine ⟨⟨hbA.grown hg7 hsA (fun q hq => (hownA.lt q hq).1), k + 1, by omega, by simp, ?_⟩, by simp [intOf]; omega⟩
        rw [HSn.out, numV_append]; exact hown7
      · have hkm' : k = n := by omega
        subst hkm'
        have hge : ¬ (k : Int) < k := by omega
        rw [List.take_of_length_le (by rw [HL.out]; omega)] at hown
        go_wp2
        go_loopw [9, 11] (fun o i wx => Below w.heap.size w wx ∧ ∃ j : Nat, j ≤ firstBad W zl ∧ i = .int .i64 j ∧ wx.ownsRow w.heap.size 5 1 o (k + W * j) (numV .u8 (zb ++ putB W (zl.take j)))) (fun _ i _ => firstBad W zl - (intOf i).toNat)
        case atStart => exact ⟨hbr, 0, by omega, rfl, by simpa [putB] using hown⟩
        case round =>
          obtain ⟨hbx, j, hj, rfl, hownx⟩ := hrel
          have hsx := hbx.size
          by_cases hjm : j < m
          · have hjm' : (j : Int) < m := by omega
            obtain ⟨q, off, hQ, hc⟩ := HRL.out
            obtain ⟨rfl, hq⟩ := hQ (by rw [HM.out]; omega)
            have cw := hc j (by rw [HM.out]; omega)
            have cz := (hbx.cell (p := ⟨q, _, none⟩) hq).trans cw
            have HQ := Lib.hid hq
            clear hc hQ
            rcases hin : inW W (zl.getD j 0) with _ | _
            · have hno := inW_no hin
              have hfb := firstBad_lt (W := W) (l := zl) (k := j) (by rw [HM.out]; omega) (fun i hi => firstBad_ok (by omega)) hin
              have HT := Lib.hid (putS_no (zb := zb) (zl := zl) HK.out (by rw [Int.toNat_natCast, hfb, HM.out]; exact hjm))
              rw [Int.toNat_natCast, hfb] at HT
              clear hfb hin hj
              generalize zl.getD j 0 = z at *
              go_wp2
              rcases hno with hno | hno
              · go_quiet ((go_at_call 22; exact Calls.quiet_of_same ((power_any W _ hW4).mono (fun _ _ h => ⟨h.1, h.2.symm⟩))))
                go_wp2
                go_ret3
                rw [HT.out]
                exact ⟨⟨none, ⟨0, rfl⟩, rdn_nil _ _ _⟩, below_drewN hbx _⟩
              · have hnn : ¬ z < 0 := by omega
                go_quiet ((go_at_call 22; exact Calls.quiet_of_same ((power_any W _ hW4).mono (fun _ _ h => ⟨h.1, h.2.symm⟩))))
                go_wp2
                go_ret3
                rw [HT.out]
                exact ⟨⟨none, ⟨0, rfl⟩, rdn_nil _ _ _⟩, below_drewN hbx _⟩
            · obtain ⟨hz0, hz1⟩ := inW_iff.1 hin
              have hkf : j < firstBad W zl := by
                rcases Nat.lt_or_ge j (firstBad W zl) with h | h
                · exact h
                · have := firstBad_bad (W := W) (l := zl) (by rw [HM.out]; omega)
                  rw [show firstBad W zl = j by omega] at this
                  rw [this] at hin; cases hin
              have HSn := Lib.hid (take_snoc (l := zl) (k := j) (by rw [HM.out]; omega))
              clear hin
              generalize zl.getD j 0 = z at *
              have hnn : ¬ z < 0 := by omega
              have hnp : ¬ pow256 W ≤ z := by omega
              go_wp2
              go_quiet ((go_at_call 22; exact Calls.quiet_of_same ((power_any W _ hW4).mono (fun _ _ h => ⟨h.1, h.2.symm⟩))))
              go_wp2
              have hownD := own_below hownx (below_drewN (Below.refl _ _) nq)
              have hbD := below_drewN hbx nq
              have hWk : W * (j + 1) ≤ 4 * m := Nat.mul_le_mul hW4 hjm
              rw [Nat.mul_succ] at hWk
              clear cz
              generalize wr.drewN nq = wy at *
              generalize hTT : zb ++ putB W (zl.take j) = T at *
              generalize hNN : k + W * j = NN at *
              have hNW : NN + W ≤ 140737488355328 := by omega
              have HNN := Lib.hid hNN
              have HTT := Lib.hid hTT
              clear hTT hNN hWk hB0
              go_loopw [9, 12] (fun o i wz => Below w.heap.size w wz ∧ ∃ (r m' : Nat) (cur : List Int), i = .int .i64 r ∧ r ≤ W ∧ m' + r = NN + W ∧ cur ++ hi z r = T ++ hi z W ∧ wz.ownsRow w.heap.size 5 1 o m' (numV .u8 cur)) (fun _ i _ => (intOf i).toNat)
              case atStart => exact ⟨hbD, W, NN, T, rfl, by omega, rfl, rfl, hownD⟩
              case round =>
                obtain ⟨hbz, r, m', cur, rfl, hrW, hmr, hcur, hownz⟩ := hrel
                have hsz := hbz.size
                rcases r with _ | r
                · have hN2 : NN + W = k + W * (j + 1) := by rw [Nat.mul_succ, ← HNN.out]; omega
                  go_wp2
                  refine ⟨⟨hbz, j + 1, hkf, by simp, ?_⟩, by simp [intOf]; omega⟩
                  simp only [hi, List.append_nil] at hcur
                  rw [hcur] at hownz
                  rw [← hN2, HSn.out, putB_snoc, ← List.append_assoc, HTT.out, show NN + W = m' by omega]
                  exact hownz
                · have hr0 : (0 : Int) < r + 1 := by omega
                  have hpp := pow256_pos r
                  have hwr : IntKind.i64.wrap (r : Int) = r := by rw [IntKind.wrap_i64]; omega
                  have hq0 : 0 ≤ z / pow256 r := Int.ediv_nonneg hz0 (by omega)
                  have hpz : ¬ pow256 r = 0 := by omega
                  have hqz : z / pow256 r ≤ z := Int.ediv_le_self _ hz0
                  have hwq : IntKind.i64.wrap (z.tdiv (pow256 r)) = z / pow256 r := by rw [Int.tdiv_eq_ediv_of_nonneg hz0, IntKind.wrap_i64]; omega
                  have hwm : IntKind.i64.wrap ((z / pow256 r).tmod 256) = (z / pow256 r).tmod 256 := by rw [Int.tmod_eq_emod_of_nonneg hq0, IntKind.wrap_i64]; omega
                  have hw8 := Lib.hid (show IntKind.u8.wrap ((z / pow256 r).tmod 256) = z / pow256 r % 256 by rw [Int.tmod_eq_emod_of_nonneg hq0, IntKind.wrap_u8]; omega)
                  have c0 := (hbz.cell (p := ⟨q, _, none⟩) HQ.out).trans cw
                  have OZ := Lib.hid hownz
                  have HCur := Lib.hid hcur
                  clear hcur hownz
                  go_wp2
                  refine wp_region_N (S := (fun w' => w'.cell? ⟨q, off + j, none⟩ = some (.int .i64 z))) (fun i => !(i == 12 || i == 13)) (by kernel_rfl) ?_ (fun hHeld => ?_)
                  · (try dsimp only)
                    first
                      | with_reducible assumption
                      | (refine cell_keep ?_ c0; go_grown; done)
                  refine wpAnyN_take [12, 13] (i := 0) (v := ?_) rfl (by kernel_rfl) (by kernel_rfl) (by kernel_rfl) (by kernel_rfl) (by kernel_rfl) (fun _ _ _ h => h) (Or.inl ⟨by first | kernel_rfl | rfl, ?_⟩) (by assumption) ?_
                  rotate_left
                  focus
                    intro w hSw
                    (try dsimp only at hSw)
                    go_simp
                    try with_reducible rfl
                  (try change wpAnyN _ _ _ _ _ _ _ _ (Act.put _ (some 58) _) _)
                  try (unfold Act.put; dsimp only)
                  refine wpAnyN_take [3, 4, 8, 9, 10, 11, 12, 13] (i := 1) (v := ?_) rfl (by kernel_rfl) (by kernel_rfl) (by kernel_rfl) (by kernel_rfl) (by kernel_rfl) (fun _ _ _ h => h) (Or.inl ⟨by first | kernel_rfl | rfl, ?_⟩) (by assumption) ?_
                  rotate_left
                  focus
                    intro w hSw
                    (try dsimp only at hSw)
                    go_simp
                    try with_reducible rfl
                  (try change wpAnyN _ _ _ _ _ _ _ _ (Act.put _ (some 59) _) _)
                  try (unfold Act.put; dsimp only)
                  refine wpAnyN_take [3, 4, 8, 9, 10, 11, 12, 13] (i := 2) (v := ?_) rfl (by kernel_rfl) (by kernel_rfl) (by kernel_rfl) (by kernel_rfl) (by kernel_rfl) (fun _ _ _ h => h) (Or.inl ⟨by first | kernel_rfl | rfl, ?_⟩) (by assumption) ?_
                  rotate_left
                  focus
                    intro w hSw
                    (try dsimp only at hSw)
                    go_simp
                    try with_reducible rfl
                  (try change wpAnyN _ _ _ _ _ _ _ _ (Act.put _ (some 60) _) _)
                  try (unfold Act.put; dsimp only)
                  refine wpAnyN_take [4, 8, 9, 10, 11, 12, 13] (i := 3) (v := ?_) rfl (by kernel_rfl) (by kernel_rfl) (by kernel_rfl) (by kernel_rfl) (by kernel_rfl) (fun _ _ _ h => h) (Or.inl ⟨by first | kernel_rfl | rfl, ?_⟩) (by assumption) ?_
                  rotate_left
                  focus
                    intro w hSw
                    (try dsimp only at hSw)
                    go_simp
                    try with_reducible rfl
                  (try change wpAnyN _ _ _ _ _ _ _ _ (Act.put _ (some 61) _) _)
                  try (unfold Act.put; dsimp only)
                  refine wpAnyN_take [8, 9, 10, 11, 12, 13] (i := 4) (v := ?_) rfl (by kernel_rfl) (by kernel_rfl) (by kernel_rfl) (by kernel_rfl) (by kernel_rfl) (fun _ _ _ h => h) (Or.inl ⟨by first | kernel_rfl | rfl, ?_⟩) (by assumption) ?_
                  rotate_left
                  focus
                    intro w hSw
                    (try dsimp only at hSw)
                    go_simp
                    try with_reducible rfl
                  (try change wpAnyN _ _ _ _ _ _ _ _ (Act.put _ (some 62) _) _)
                  try (unfold Act.put; dsimp only)
                  refine wpAnyN_take [6, 7, 8, 9, 10, 11, 12, 13] (i := 5) (v := ?_) rfl (by kernel_rfl) (by kernel_rfl) (by kernel_rfl) (by kernel_rfl) (by kernel_rfl) (fun _ _ _ h => h) (Or.inl ⟨by first | kernel_rfl | rfl, ?_⟩) (by assumption) ?_
                  rotate_left
                  focus
                    intro w hSw
                    (try dsimp only at hSw)
                    go_simp
                    try with_reducible rfl
                  (try change wpAnyN _ _ _ _ _ _ _ _ (Act.put _ (some 63) _) _)
                  try (unfold Act.put; dsimp only)
                  refine wpAnyN_take [7, 8, 9, 10, 11, 12, 13] (i := 6) (v := ?_) rfl (by kernel_rfl) (by kernel_rfl) (by kernel_rfl) (by kernel_rfl) (by kernel_rfl) (fun _ _ _ h => h) (Or.inl ⟨by first | kernel_rfl | rfl, ?_⟩) (by assumption) ?_
                  rotate_left
                  focus
                    intro w hSw
                    (try dsimp only at hSw)
                    go_simp
                    try with_reducible rfl
                  (try change wpAnyN _ _ _ _ _ _ _ _ (Act.put _ (some 64) _) _)
                  try (unfold Act.put; dsimp only)
                  refine wpAnyN_ready (rs := [7]) (by kernel_rfl) (by simp) ?_
                  refine AllReadyN.cons rfl (fun K hK => ?_) ?_
                  · go_simp
                    go_at_call 22
                    refine (power_any r _ (by omega)).mono ?_
                    rintro e w5 ⟨rfl, rfl⟩
                    dsimp only
                    refine hK.out _ _ ?_ (fun hHeld => ?_)
                    · (try dsimp only)
                      first
                        | with_reducible assumption
                        | (refine cell_keep ?_ c0; go_grown; done)
                    clear hK K
                    (try change wpAnyN _ _ _ _ _ _ _ _ (Act.put _ (some 65) _) _)
                    try (unfold Act.put; dsimp only)
                    refine wpAnyN_take [9, 10, 11, 12, 13] (i := 8) (v := ?_) rfl (by kernel_rfl) (by kernel_rfl) (by kernel_rfl) (by kernel_rfl) (by kernel_rfl) (fun _ _ _ h => h) (Or.inl ⟨by first | kernel_rfl | rfl, ?_⟩) (by assumption) ?_
                    rotate_left
                    focus
                      intro w hSw
                      (try dsimp only at hSw)
                      go_simp
                      try with_reducible rfl
                    (try change wpAnyN _ _ _ _ _ _ _ _ (Act.put _ (some 66) _) _)
                    try (unfold Act.put; dsimp only)
                    refine wpAnyN_take [10, 11, 12, 13] (i := 9) (v := ?_) rfl (by kernel_rfl) (by kernel_rfl) (by kernel_rfl) (by kernel_rfl) (by kernel_rfl) (fun _ _ _ h => h) (Or.inl ⟨by first | kernel_rfl | rfl, ?_⟩) (by assumption) ?_
                    rotate_left
                    focus
                      intro w hSw
                      (try dsimp only at hSw)
                      go_simp
                      try with_reducible rfl
                    (try change wpAnyN _ _ _ _ _ _ _ _ (Act.put _ (some 67) _) _)
                    try (unfold Act.put; dsimp only)
                    refine wpAnyN_take [11, 12, 13] (i := 10) (v := ?_) rfl (by kernel_rfl) (by kernel_rfl) (by kernel_rfl) (by kernel_rfl) (by kernel_rfl) (fun _ _ _ h => h) (Or.inl ⟨by first | kernel_rfl | rfl, ?_⟩) (by assumption) ?_
                    rotate_left
                    focus
                      intro w hSw
                      (try dsimp only at hSw)
                      go_simp
                      try with_reducible rfl
                    (try change wpAnyN _ _ _ _ _ _ _ _ (Act.put _ (some 68) _) _)
                    try (unfold Act.put; dsimp only)
                    refine wpAnyN_ready (rs := [11]) (by kernel_rfl) (by simp) ?_
                    refine AllReadyN.cons rfl (fun K hK => ?_) ?_
                    · go_simp
                      refine hK.out _ _ ?_ (fun hHeld => ?_)
                      · (try dsimp only)
                        first
                          | with_reducible assumption
                          | (refine cell_keep ?_ c0; go_grown; done)
                      clear hK K
                      (try change wpAnyN _ _ _ _ _ _ _ _ (Act.put _ (some 69) _) _)
                      try (unfold Act.put; dsimp only)
                      refine wpAnyN_ready (rs := [12]) (by kernel_rfl) (by simp) ?_
                      refine AllReadyN.last rfl rfl (fun K hK => ?_) ?_
                      · refine step_append_nums (by rfl) (by rfl) _ _ (by rfl) Tryd.underlying22 u8_info (by decide) w.heap.size _ m' (numV .u8 cur) (by rfl) (own_below OZ.out (by go_grown)) _ 1 1 [IntKind.u8.wrap ((z / pow256 r).tmod 256)] rfl (by rfl) (rdn_blk (T := 5) (by (repeat (first | rw [heap_drew] | rw [heap_push])); simp)) (by first | omega | (simp; omega)) (by omega) ?_
                        intro v7 w7 hown7 hg7
                        rw [hw8.out] at hown7
                        have hb7 : Below w.heap.size w w7 := Below.grown (hbz.trans (Below.mono (show Below wr.heap.size wr _ by go_grown) hsz)) hg7 (by first | omega | (simp; omega)) (fun q hq => (OZ.out.lt q hq).1)
                        refine hK.out _ _ ?_
                        clear hK K
                        (try change wpAnyN _ _ _ _ _ _ _ _ (Act.put _ (some 70) _) _)
                        try (unfold Act.put; dsimp only)
                        refine wpAnyN_ready (rs := [13]) (by kernel_rfl) (by simp) ?_
                        refine AllReadyN.last rfl rfl (fun K hK => ?_) ?_
                        · go_simp
                          refine hK.out _ _ ?_
                          clear hK K
                          (try change wpAnyN _ _ _ _ _ _ _ _ (Act.put _ (some 9) _) _)
                          try (unfold Act.put; dsimp only)
                          refine wpAnyN_done (by kernel_rfl) ?_ _
                          go_wp2
                          refine ⟨⟨hb7, r, m' + 1, cur ++ [z / pow256 r % 256], by simp, by omega, by omega, ?_, ?_⟩, by simp [intOf]⟩
                          · rw [← HCur.out, List.append_assoc]; rfl
                          · rw [numV_append]; exact hown7
                        exact AllReadyN.nil
                      exact AllReadyN.nil
                    exact AllReadyN.nil
                  exact AllReadyN.nil
          · have hjm' : j = m := by omega
            subst hjm'
            have hge : ¬ (j : Int) < j := by omega
            have hfb : firstBad W zl = j := by omega
            have HT := Lib.hid (putS_ok (zb := zb) (zl := zl) HK.out (by rw [Int.toNat_natCast, hfb, HM.out]; omega))
            rw [Int.toNat_natCast] at HT
            rw [List.take_of_length_le (by rw [HM.out]; omega)] at hownx
            obtain ⟨hlo, A1, c1, rfl, hc1, hm1, hR1, hB1⟩ := rdn_of_own hownx
            clear hfb hj hB0
            generalize k + W * j = NN at *
            go_wp2
            go_ret3
            rw [HT.out]
            have HLO := hlo
            subst HLO
            exact ⟨⟨A1, ⟨c1, rfl⟩, hR1⟩, hbx⟩
end Go.Proofs.YtdbiigcabfnpfaaDoor

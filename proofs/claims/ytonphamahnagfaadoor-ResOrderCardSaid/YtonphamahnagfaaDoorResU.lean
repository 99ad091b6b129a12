/-
  catchboltref02.Parse: over any text. No other conditions.
-/
import Derived.Test.YtonphamahnagfaaDoorResT
import Derived.Test.YtonphamahnagfaaDoorResP
import Derived.Deep.QuietTactic
import Derived.BigQuiet
namespace Go.Proofs.YtonphamahnagfaaDoor
open Go.ChangeShapes Go.WideShapes Go.ChangeAt Go.RowKit
set_option linter.unusedVariables false

theorem dig_pos (n : Nat) : 0 < (digL n).length := by
  unfold digL
  split
  · simp
  · split <;> simp
theorem text_head (t r : Nat) : (textL t r)[0]? = (digL t)[0]? := by
  unfold textL
  split
  · rfl
  · rw [List.getElem?_append_left (dig_pos t)]
/-- what the document answers -/
def RefIs (e : Ending) : (Nat × Nat) ⊕ Nat → Prop
  | .inl (t, r) => e = .returned (.tuple #[.agg #[.int .i64 t, .int .i64 r], .int .i64 0, .int .i64 0])
  | .inr i => e = .returned (.tuple #[.agg #[.int .i64 0, .int .i64 0], .int .i64 i, .int .i64 5])

theorem below_drewN {B : Nat} {a w : World} (h : Below B a w) (n : Nat) : Below B a (w.drewN n) := ⟨h.os, h.tape, h.output, h.size, h.block⟩
set_option maxRecDepth 100000 in
set_option maxHeartbeats 2000000 in
theorem rparse_any (s : ByteArray) (w : World) (hs : s.size ≤ 1000000) :
    Calls Tryd.prog 10 #[.string s] w fun e w' => RefIs e (readL s.data.toList) ∧ Below w.heap.size w w' := by
  have hsz : s.data.toList.length = s.size := by simp
  have HSZ := Lib.hid hsz
  have HBA := Lib.hid (show Below w.heap.size w (w.alloc (.cells #[.int .i64 0, .int .i64 0] 24)) from (Below.refl _ _).alloc (Nat.le_refl _) _)
  have HR0 := Lib.hid (show (w.alloc (.cells #[.int .i64 0, .int .i64 0] 24)).cell? ⟨w.heap.size, 0, none⟩ = some (.int .i64 0) by simp)
  have HR1 := Lib.hid (show (w.alloc (.cells #[.int .i64 0, .int .i64 0] 24)).cell? ⟨w.heap.size, 1, none⟩ = some (.int .i64 0) by simp)
  have HZ0 := Lib.hid (show (w.alloc (.cells #[.int .i64 0, .int .i64 0] 24)).frozen? ⟨w.heap.size, 0, none⟩ = false by simp)
  have HZ1 := Lib.hid (show (w.alloc (.cells #[.int .i64 0, .int .i64 0] 24)).frozen? ⟨w.heap.size, 1, none⟩ = false by simp)
  clear hsz
  go_enter Tryd.func10, Tryd.ntmps10
  go_wp2
  generalize hW1 : w.alloc (.cells #[.int .i64 0, .int .i64 0] 24) = w1 at *
  have hs1 : w1.heap.size = w.heap.size + 1 := by rw [← hW1]; simp
  have HS1 := Lib.hid hs1
  clear hs1 hW1
  go_loopw [5] (fun i wr => Below w1.heap.size w1 wr ∧ ∃ k : Nat, k ≤ s.size ∧ i = .int .i64 k ∧ (run (.tab 0) (s.data.toList.take k)).isSome = true) (fun i _ => s.size - (intOf i).toNat)
  case atStart => exact ⟨Below.refl _ _, 0, by omega, rfl, rfl⟩
  case round =>
    obtain ⟨hbr, k, hk, rfl, hrun⟩ := hrel
    have HRUN := Lib.hid hrun
    clear hrun
    by_cases hlt : k < s.size
    · have hlt' : (k : Int) < s.size := by omega
      by_cases h7 : 7 < k
      · have h7' : (7 : Int) < k := by omega
        have HN := Lib.hid (readL_fault HRUN.out (by
          cases h : (run (.tab 0) (s.data.toList.take (k + 1))).isSome with
          | false => rfl
          | true =>
            have := run_len h
            rw [List.length_take, HSZ.out] at this
            omega))
        -- the result's cells behind hbr : Below (w.alloc) wr
        have r0' := ((hbr).cell (p := ⟨w.heap.size, 0, none⟩) (by have := HS1.out; show w.heap.size < _; omega)).trans HR0.out
        have r1' := ((hbr).cell (p := ⟨w.heap.size, 1, none⟩) (by have := HS1.out; show w.heap.size < _; omega)).trans HR1.out
        have fz' := ((hbr).frozen (p := ⟨w.heap.size, 0, none⟩) (by have := HS1.out; show w.heap.size < _; omega)).trans HZ0.out
        have fz1' := ((hbr).frozen (p := ⟨w.heap.size, 1, none⟩) (by have := HS1.out; show w.heap.size < _; omega)).trans HZ1.out
        obtain ⟨q0, q1⟩ := set2 r0' r1' (.int .i64 0) (.int .i64 0)
        have HBF := Lib.hid (show Below w.heap.size w (((wr).setCell ⟨w.heap.size, 0, none⟩ (.int .i64 0)).setCell ⟨w.heap.size, 1, none⟩ (.int .i64 0)) from Below.setCell (Below.setCell (HBA.out.trans ((hbr).mono (by have := HS1.out; omega))) (Nat.le_refl _) _) (Nat.le_refl _) _)
        go_wp2
        refine bodyPost_ret (by simp [results, Tryd.results10, go_sem, q0, q1] <;> rfl) rfl ?_
        rw [HN.out]
        exact ⟨rfl, HBF.out⟩
      · have h7' : ¬ (7 : Int) < k := by omega
        have hex : (s.extract 0 (k + 1)).data.toList = s.data.toList.take (k + 1) := by rw [← ByteArray.toList_eq]; exact ext_take _ _
        have hes : (s.extract 0 (k + 1)).size ≤ 1000000 := by
          have : (s.extract 0 (k + 1)).size = (s.extract 0 (k + 1)).data.toList.length := by simp
          rw [this, hex, List.length_take]; have := HSZ.out; omega
        have HG := Lib.hid (goes_any (s.extract 0 (k + 1)) wr hes)
        have hne : s.data.toList.take (k + 1) ≠ [] := by
          intro h
          have := congrArg List.length h
          rw [List.length_take, HSZ.out, List.length_nil] at this
          omega
        have HIFF := Lib.hid (goes_iff hne)
        rw [hex] at HG
        clear hex hes hne
        generalize goesL (s.data.toList.take (k + 1)) = b at *
        go_wp2_with fail
        refine HG.out.mono ?_
        rintro e w5 ⟨rfl, hb5⟩
        have hb5' := hbr.trans (hb5.mono hbr.size)
        cases b
        · have HN := Lib.hid (readL_fault HRUN.out (by
            cases h : (run (.tab 0) (s.data.toList.take (k + 1))).isSome with
            | false => rfl
            | true => exact absurd (HIFF.out.2 h) (by decide)))
          -- the result's cells behind hb5' : Below (w.alloc) w5
          have r0' := ((hb5').cell (p := ⟨w.heap.size, 0, none⟩) (by have := HS1.out; show w.heap.size < _; omega)).trans HR0.out
          have r1' := ((hb5').cell (p := ⟨w.heap.size, 1, none⟩) (by have := HS1.out; show w.heap.size < _; omega)).trans HR1.out
          have fz' := ((hb5').frozen (p := ⟨w.heap.size, 0, none⟩) (by have := HS1.out; show w.heap.size < _; omega)).trans HZ0.out
          have fz1' := ((hb5').frozen (p := ⟨w.heap.size, 1, none⟩) (by have := HS1.out; show w.heap.size < _; omega)).trans HZ1.out
          obtain ⟨q0, q1⟩ := set2 r0' r1' (.int .i64 0) (.int .i64 0)
          have HBF := Lib.hid (show Below w.heap.size w (((w5).setCell ⟨w.heap.size, 0, none⟩ (.int .i64 0)).setCell ⟨w.heap.size, 1, none⟩ (.int .i64 0)) from Below.setCell (Below.setCell (HBA.out.trans ((hb5').mono (by have := HS1.out; omega))) (Nat.le_refl _) _) (Nat.le_refl _) _)
          go_wp2
          refine bodyPost_ret (by simp [results, Tryd.results10, go_sem, q0, q1] <;> rfl) rfl ?_
          rw [HN.out]
          exact ⟨rfl, HBF.out⟩
        · have HR := Lib.hid (HIFF.out.1 rfl)
          go_wp2
          exact ⟨⟨hb5', k + 1, by omega, by simp, HR.out⟩, by simp [intOf]; omega⟩
    · have hk' : k = s.size := by omega
      have hge : ¬ (k : Int) < s.size := by omega
      have hrun := HRUN.out
      rw [hk', List.take_of_length_le (by rw [HSZ.out]; exact Nat.le_refl _)] at hrun
      have HFULL := Lib.hid hrun
      clear hrun HRUN hlt hk'
      go_wp2
      clear hge
      go_loopw [6] (fun i wy => Below w1.heap.size w1 wy ∧ ∃ m : Nat, m ≤ 250 ∧ i = .int .i64 (m + 1) ∧ ∀ t r, t < m → r ≤ 250 → textL (t + 1) r ≠ s.data.toList) (fun i _ => 252 - (intOf i).toNat)
      case atStart => exact ⟨hbr, 0, by omega, rfl, fun t r h => by omega⟩
      case round =>
        obtain ⟨hby, m, hm, rfl, hno⟩ := hrel
        have HNO := Lib.hid hno
        clear hno
        by_cases hm2 : m < 250
        · have hm1 : ((m : Int) + 1) = ((m + 1 : Nat) : Int) := by omega
          have hm3 : ((m + 1 : Nat) : Int) < 251 := by omega
          rw [hm1]
          have hmK : m + 1 ≤ 250 := by omega
          clear hm1
          generalize hK : m + 1 = K at *
          have HK := Lib.hid hK
          clear hK
          have HDG := Lib.hid (fun W => digits_any K W (by omega))
          have HTX := Lib.hid (fun j (hj : j < 251) W => text_any K j W (by omega) (by omega))
          have hap : 0 < (digs K).size := by
            have := dig_pos K
            have e : (digs K).size = (digL K).length := by show (digL K).toArray.size = _; simp
            omega
          obtain ⟨c0, hc0⟩ : ∃ c, (digs K)[0] = c := ⟨_, rfl⟩
          have HC0 := Lib.hid (show (digL K)[0]? = some c0 by
            rw [← hc0, List.getElem?_eq_getElem (dig_pos K)]; simp [digs]; rfl)
          generalize digs K = a at *
          go_wp2
          go_loopw [7] (fun i wz => Below w1.heap.size w1 wz ∧ ∃ j : Nat, j ≤ 251 ∧ i = .int .i64 j ∧ ∀ r, r < j → textL K r ≠ s.data.toList) (fun i _ => 252 - (intOf i).toNat)
          case atStart => exact ⟨hby, 0, by omega, rfl, fun r h => by omega⟩
          case round =>
            obtain ⟨hbz, j, hj, rfl, hnr⟩ := hrel
            have HNR := Lib.hid hnr
            have hszz := hbz.size
            clear hnr
            by_cases hj2 : j < 251
            · have hj3 : (j : Int) < 251 := by omega
              have HEND := Lib.hid (fun (h : textL K j ≠ s.data.toList) => (show ∀ r, r < j + 1 → textL K r ≠ s.data.toList from fun r hr => by
                rcases Nat.lt_or_ge r j with h' | h'
                · exact HNR.out r h'
                · rw [show r = j by omega]; exact h))
              by_cases hs0 : s.size = 0
              · have hs0' : ¬ (0 : Int) < s.size := by omega
                have hs0n : ¬ 0 < s.size := by omega
                have HT := Lib.hid (HEND.out (fun h => by
                  have := congrArg List.length h
                  rw [HSZ.out, hs0] at this
                  have h2 := dig_pos K
                  unfold textL at this
                  split at this
                  · omega
                  · simp at this))
                clear hs0
                go_wp2
                go_quiet (fail)
                go_wp2
                exact ⟨⟨below_drewN hbz _, j + 1, by omega, by simp, HT.out⟩, by simp [intOf]; omega⟩
              · have hs0' : (0 : Int) < s.size := by omega
                have hs1 : 0 < s.size := by omega
                obtain ⟨c1, hc1⟩ : ∃ c, s[0] = c := ⟨_, rfl⟩
                have HC1 := Lib.hid (show s.data.toList[0]? = some c1 by
                  rw [List.getElem?_eq_getElem (by rw [HSZ.out]; exact hs1), ← hc1]; simp; rfl)
                by_cases hcc : c0 = c1
                · subst hcc
                  have htb : (textB K j).toList = textL K j := by rw [ByteArray.toList_eq]; rfl
                  have HTXJ := Lib.hid (HTX.out j hj2)
                  have HTB := Lib.hid htb
                  clear htb hs0
                  generalize textB K j = tx at *
                  rcases hqt : (tx.toList == s.toList) with _ | _
                  · have HT := Lib.hid (HEND.out (fun h => by
                      rw [← HTB.out, ← ByteArray.toList_eq] at h
                      exact beq_no hqt h))
                    go_wp2
                    refine wp_region_N (S := (fun _ => True)) (fun i => true) (by kernel_rfl) ?_ (fun hHeld => ?_)
                    · (try dsimp only)
                      try trivial
                    refine wpAnyN_take [1, 2, 3, 4, 5, 6, 7, 8, 9, 10, 11, 12, 13, 14, 15, 16, 17, 18] (i := 0) (v := ?_) rfl (by kernel_rfl) (by kernel_rfl) (by kernel_rfl) (by kernel_rfl) (by kernel_rfl) (fun _ _ _ h => h) (Or.inl ⟨by first | kernel_rfl | rfl, ?_⟩) (by assumption) ?_
                    rotate_left
                    focus
                      intro w hSw
                      (try dsimp only at hSw)
                      go_simp
                      try with_reducible rfl
                    (try change wpAnyN _ _ _ _ _ _ _ _ (Act.put _ (some 34) _) _)
                    try (unfold Act.put; dsimp only)
                    refine wpAnyN_take [2, 3, 4, 5, 6, 7, 8, 9, 10, 11, 12, 13, 14, 15, 16, 17, 18] (i := 1) (v := ?_) rfl (by kernel_rfl) (by kernel_rfl) (by kernel_rfl) (by kernel_rfl) (by kernel_rfl) (fun _ _ _ h => h) (Or.inl ⟨by first | kernel_rfl | rfl, ?_⟩) (by assumption) ?_
                    rotate_left
                    focus
                      intro w hSw
                      (try dsimp only at hSw)
                      go_simp
                      try with_reducible rfl
                    (try change wpAnyN _ _ _ _ _ _ _ _ (Act.put _ (some 35) _) _)
                    try (unfold Act.put; dsimp only)
                    refine wpAnyN_take [3, 4, 5, 6, 7, 8, 9, 10, 11, 12, 13, 14, 15, 16, 17, 18] (i := 2) (v := ?_) rfl (by kernel_rfl) (by kernel_rfl) (by kernel_rfl) (by kernel_rfl) (by kernel_rfl) (fun _ _ _ h => h) (Or.inl ⟨by first | kernel_rfl | rfl, ?_⟩) (by assumption) ?_
                    rotate_left
                    focus
                      intro w hSw
                      (try dsimp only at hSw)
                      go_simp
                      try with_reducible rfl
                    (try change wpAnyN _ _ _ _ _ _ _ _ (Act.put _ (some 36) _) _)
                    try (unfold Act.put; dsimp only)
                    refine wpAnyN_take [4, 5, 6, 7, 8, 9, 10, 11, 12, 13, 14, 15, 16, 17, 18] (i := 3) (v := ?_) rfl (by kernel_rfl) (by kernel_rfl) (by kernel_rfl) (by kernel_rfl) (by kernel_rfl) (fun _ _ _ h => h) (Or.inl ⟨by first | kernel_rfl | rfl, ?_⟩) (by assumption) ?_
                    rotate_left
                    focus
                      intro w hSw
                      (try dsimp only at hSw)
                      go_simp
                      try with_reducible rfl
                    (try change wpAnyN _ _ _ _ _ _ _ _ (Act.put _ (some 37) _) _)
                    try (unfold Act.put; dsimp only)
                    refine wpAnyN_take [5, 6, 9, 10, 11, 12, 13, 14, 15, 16, 17, 18] (i := 4) (v := ?_) rfl (by kernel_rfl) (by kernel_rfl) (by kernel_rfl) (by kernel_rfl) (by kernel_rfl) (fun _ _ _ h => h) (Or.inl ⟨by first | kernel_rfl | rfl, ?_⟩) (by assumption) ?_
                    rotate_left
                    focus
                      intro w hSw
                      (try dsimp only at hSw)
                      go_simp
                      try with_reducible rfl
                    (try change wpAnyN _ _ _ _ _ _ _ _ (Act.put _ (some 38) _) _)
                    try (unfold Act.put; dsimp only)
                    refine wpAnyN_take [8, 9, 10, 11, 12, 13, 14, 15, 16, 17, 18] (i := 7) (v := ?_) rfl (by kernel_rfl) (by kernel_rfl) (by kernel_rfl) (by kernel_rfl) (by kernel_rfl) (fun _ _ _ h => h) (Or.inl ⟨by first | kernel_rfl | rfl, ?_⟩) (by assumption) ?_
                    rotate_left
                    focus
                      intro w hSw
                      (try dsimp only at hSw)
                      go_simp
                      try with_reducible rfl
                    (try change wpAnyN _ _ _ _ _ _ _ _ (Act.put _ (some 41) _) _)
                    try (unfold Act.put; dsimp only)
                    refine wpAnyN_take [9, 10, 11, 12, 13, 14, 15, 16, 17, 18] (i := 8) (v := ?_) rfl (by kernel_rfl) (by kernel_rfl) (by kernel_rfl) (by kernel_rfl) (by kernel_rfl) (fun _ _ _ h => h) (Or.inl ⟨by first | kernel_rfl | rfl, ?_⟩) (by assumption) ?_
                    rotate_left
                    focus
                      intro w hSw
                      (try dsimp only at hSw)
                      go_simp
                      try with_reducible rfl
                    (try change wpAnyN _ _ _ _ _ _ _ _ (Act.put _ (some 42) _) _)
                    try (unfold Act.put; dsimp only)
                    refine wpAnyN_ready (rs := [5]) (by kernel_rfl) (by simp) ?_
                    refine AllReadyN.cons rfl (fun K hK => ?_) ?_
                    · go_simp
                      go_at_call 27
                      refine (HDG.out _).mono ?_
                      rintro e w5 ⟨rfl, hb5⟩
                      have hbw : Below w1.heap.size w1 w5 := Below.trans (show Below w1.heap.size w1 _ by first | exact hbz.drew | exact hbz) (hb5.mono (by first | exact hszz | (simp; omega)))
                      have hsw := hbw.size
                      dsimp only
                      refine hK.out _ _ ?_ (fun hHeld => ?_)
                      · (try dsimp only)
                        try trivial
                      clear hK K
                      (try change wpAnyN _ _ _ _ _ _ _ _ (Act.put _ (some 39) _) _)
                      try (unfold Act.put; dsimp only)
                      refine wpAnyN_take [9, 10, 11, 12, 13, 14, 15, 16, 17, 18] (i := 6) (v := ?_) rfl (by kernel_rfl) (by kernel_rfl) (by kernel_rfl) (by kernel_rfl) (by kernel_rfl) (fun _ _ _ h => h) (Or.inl ⟨by first | kernel_rfl | rfl, ?_⟩) (by assumption) ?_
                      rotate_left
                      focus
                        intro w hSw
                        (try dsimp only at hSw)
                        go_simp
                        try with_reducible rfl
                      (try change wpAnyN _ _ _ _ _ _ _ _ (Act.put _ (some 40) _) _)
                      try (unfold Act.put; dsimp only)
                      refine wpAnyN_take [10, 11, 12, 13, 14, 15, 16, 17, 18] (i := 9) (v := ?_) rfl (by kernel_rfl) (by kernel_rfl) (by kernel_rfl) (by kernel_rfl) (by kernel_rfl) (fun _ _ _ h => h) (Or.inl ⟨by first | kernel_rfl | rfl, ?_⟩) (by assumption) ?_
                      rotate_left
                      focus
                        intro w hSw
                        (try dsimp only at hSw)
                        go_simp
                        try with_reducible rfl
                      (try change wpAnyN _ _ _ _ _ _ _ _ (Act.put _ (some 43) _) _)
                      try (unfold Act.put; dsimp only)
                      refine wpAnyN_take [11, 12, 13, 14, 15, 16, 17, 18] (i := 10) (v := ?_) rfl (by kernel_rfl) (by kernel_rfl) (by kernel_rfl) (by kernel_rfl) (by kernel_rfl) (fun _ _ _ h => h) (Or.inl ⟨by first | kernel_rfl | rfl, ?_⟩) (by assumption) ?_
                      rotate_left
                      focus
                        intro w hSw
                        (try dsimp only at hSw)
                        go_simp
                        try with_reducible rfl
                      (try change wpAnyN _ _ _ _ _ _ _ _ (Act.put _ (some 44) _) _)
                      try (unfold Act.put; dsimp only)
                      refine wpAnyN_take [12, 13, 14, 15, 16, 17, 18] (i := 11) (v := ?_) rfl (by kernel_rfl) (by kernel_rfl) (by kernel_rfl) (by kernel_rfl) (by kernel_rfl) (fun _ _ _ h => h) (Or.inl ⟨by first | kernel_rfl | rfl, ?_⟩) (by assumption) ?_
                      rotate_left
                      focus
                        intro w hSw
                        (try dsimp only at hSw)
                        go_simp
                        try with_reducible rfl
                      (try change wpAnyN _ _ _ _ _ _ _ _ (Act.put _ (some 45) _) _)
                      try (unfold Act.put; dsimp only)
                      refine wpAnyN_take [14, 15, 17, 18] (i := 12) (v := ?_) rfl (by kernel_rfl) (by kernel_rfl) (by kernel_rfl) (by kernel_rfl) (by kernel_rfl) (fun _ _ _ h => h) (Or.inl ⟨by first | kernel_rfl | rfl, ?_⟩) (by assumption) ?_
                      rotate_left
                      focus
                        intro w hSw
                        (try dsimp only at hSw)
                        go_simp
                        try with_reducible rfl
                      (try change wpAnyN _ _ _ _ _ _ _ _ (Act.put _ (some 46) _) _)
                      try (unfold Act.put; dsimp only)
                      refine wpAnyN_take [14, 15, 17, 18] (i := 13) (v := ?_) rfl (by kernel_rfl) (by kernel_rfl) (by kernel_rfl) (by kernel_rfl) (by kernel_rfl) (fun _ _ _ h => h) (Or.inl ⟨by first | kernel_rfl | rfl, ?_⟩) (by assumption) ?_
                      rotate_left
                      focus
                        intro w hSw
                        (try dsimp only at hSw)
                        go_simp
                        try with_reducible rfl
                      (try change wpAnyN _ _ _ _ _ _ _ _ (Act.put _ (some 47) _) _)
                      try (unfold Act.put; dsimp only)
                      refine wpAnyN_take [15, 17, 18] (i := 14) (v := ?_) rfl (by kernel_rfl) (by kernel_rfl) (by kernel_rfl) (by kernel_rfl) (by kernel_rfl) (fun _ _ _ h => h) (Or.inl ⟨by first | kernel_rfl | rfl, ?_⟩) (by assumption) ?_
                      rotate_left
                      focus
                        intro w hSw
                        (try dsimp only at hSw)
                        go_simp
                        try with_reducible rfl
                      (try change wpAnyN _ _ _ _ _ _ _ _ (Act.put _ (some 48) _) _)
                      try (unfold Act.put; dsimp only)
                      refine wpAnyN_take [17, 18] (i := 16) (v := ?_) rfl (by kernel_rfl) (by kernel_rfl) (by kernel_rfl) (by kernel_rfl) (by kernel_rfl) (fun _ _ _ h => h) (Or.inl ⟨by first | kernel_rfl | rfl, ?_⟩) (by assumption) ?_
                      rotate_left
                      focus
                        intro w hSw
                        (try dsimp only at hSw)
                        go_simp
                        try with_reducible rfl
                      (try change wpAnyN _ _ _ _ _ _ _ _ (Act.put _ (some 50) _) _)
                      try (unfold Act.put; dsimp only)
                      refine wpAnyN_ready (rs := [15]) (by kernel_rfl) (by simp) ?_
                      refine AllReadyN.cons rfl (fun K hK => ?_) ?_
                      · go_simp
                        go_at_call 18
                        refine (HTXJ.out _).mono ?_
                        rintro e w6 ⟨rfl, hb6⟩
                        have hbv : Below w1.heap.size w1 w6 := hbw.trans (hb6.mono hsw)
                        dsimp only
                        refine hK.out _ _ ?_ (fun hHeld => ?_)
                        · (try dsimp only)
                          try trivial
                        clear hK K
                        (try change wpAnyN _ _ _ _ _ _ _ _ (Act.put _ (some 49) _) _)
                        try (unfold Act.put; dsimp only)
                        refine wpAnyN_take [18] (i := 17) (v := ?_) rfl (by kernel_rfl) (by kernel_rfl) (by kernel_rfl) (by kernel_rfl) (by kernel_rfl) (fun _ _ _ h => h) (Or.inl ⟨by first | kernel_rfl | rfl, ?_⟩) (by assumption) ?_
                        rotate_left
                        focus
                          intro w hSw
                          (try dsimp only at hSw)
                          go_simp
                          try with_reducible rfl
                        (try change wpAnyN _ _ _ _ _ _ _ _ (Act.put _ (some 51) _) _)
                        try (unfold Act.put; dsimp only)
                        refine wpAnyN_take [] (i := 18) (v := ?_) rfl (by kernel_rfl) (by kernel_rfl) (by kernel_rfl) (by kernel_rfl) (by kernel_rfl) (fun _ _ _ h => h) (Or.inl ⟨by first | kernel_rfl | rfl, ?_⟩) (by assumption) ?_
                        rotate_left
                        focus
                          intro w hSw
                          (try dsimp only at hSw)
                          go_simp
                          try with_reducible rfl
                        (try change wpAnyN _ _ _ _ _ _ _ _ (Act.put _ (some 52) _) _)
                        try (unfold Act.put; dsimp only)
                        refine wpAnyN_done (by kernel_rfl) ?_ _
                        (simp only [List.setIfInBounds_toArray, List.set_cons_succ, List.set_cons_zero])
                        go_wp2
                        exact ⟨⟨hbv, j + 1, by omega, by simp, HT.out⟩, by simp [intOf]; omega⟩
                      exact AllReadyN.nil
                    exact AllReadyN.nil
                  · have HN := Lib.hid (readL_text (L := s.data.toList) (t := K) (r := j) ⟨by have := HK.out; omega, hmK⟩ (by omega) (by rw [← HTB.out, ← ByteArray.toList_eq]; exact beq_iff.1 hqt))
                    go_wp2
                    refine wp_region_N (S := (fun _ => True)) (fun i => true) (by kernel_rfl) ?_ (fun hHeld => ?_)
                    · (try dsimp only)
                      try trivial
                    refine wpAnyN_take [1, 2, 3, 4, 5, 6, 7, 8, 9, 10, 11, 12, 13, 14, 15, 16, 17, 18] (i := 0) (v := ?_) rfl (by kernel_rfl) (by kernel_rfl) (by kernel_rfl) (by kernel_rfl) (by kernel_rfl) (fun _ _ _ h => h) (Or.inl ⟨by first | kernel_rfl | rfl, ?_⟩) (by assumption) ?_
                    rotate_left
                    focus
                      intro w hSw
                      (try dsimp only at hSw)
                      go_simp
                      try with_reducible rfl
                    (try change wpAnyN _ _ _ _ _ _ _ _ (Act.put _ (some 34) _) _)
                    try (unfold Act.put; dsimp only)
                    refine wpAnyN_take [2, 3, 4, 5, 6, 7, 8, 9, 10, 11, 12, 13, 14, 15, 16, 17, 18] (i := 1) (v := ?_) rfl (by kernel_rfl) (by kernel_rfl) (by kernel_rfl) (by kernel_rfl) (by kernel_rfl) (fun _ _ _ h => h) (Or.inl ⟨by first | kernel_rfl | rfl, ?_⟩) (by assumption) ?_
                    rotate_left
                    focus
                      intro w hSw
                      (try dsimp only at hSw)
                      go_simp
                      try with_reducible rfl
                    (try change wpAnyN _ _ _ _ _ _ _ _ (Act.put _ (some 35) _) _)
                    try (unfold Act.put; dsimp only)
                    refine wpAnyN_take [3, 4, 5, 6, 7, 8, 9, 10, 11, 12, 13, 14, 15, 16, 17, 18] (i := 2) (v := ?_) rfl (by kernel_rfl) (by kernel_rfl) (by kernel_rfl) (by kernel_rfl) (by kernel_rfl) (fun _ _ _ h => h) (Or.inl ⟨by first | kernel_rfl | rfl, ?_⟩) (by assumption) ?_
                    rotate_left
                    focus
                      intro w hSw
                      (try dsimp only at hSw)
                      go_simp
                      try with_reducible rfl
                    (try change wpAnyN _ _ _ _ _ _ _ _ (Act.put _ (some 36) _) _)
                    try (unfold Act.put; dsimp only)
                    refine wpAnyN_take [4, 5, 6, 7, 8, 9, 10, 11, 12, 13, 14, 15, 16, 17, 18] (i := 3) (v := ?_) rfl (by kernel_rfl) (by kernel_rfl) (by kernel_rfl) (by kernel_rfl) (by kernel_rfl) (fun _ _ _ h => h) (Or.inl ⟨by first | kernel_rfl | rfl, ?_⟩) (by assumption) ?_
                    rotate_left
                    focus
                      intro w hSw
                      (try dsimp only at hSw)
                      go_simp
                      try with_reducible rfl
                    (try change wpAnyN _ _ _ _ _ _ _ _ (Act.put _ (some 37) _) _)
                    try (unfold Act.put; dsimp only)
                    refine wpAnyN_take [5, 6, 9, 10, 11, 12, 13, 14, 15, 16, 17, 18] (i := 4) (v := ?_) rfl (by kernel_rfl) (by kernel_rfl) (by kernel_rfl) (by kernel_rfl) (by kernel_rfl) (fun _ _ _ h => h) (Or.inl ⟨by first | kernel_rfl | rfl, ?_⟩) (by assumption) ?_
                    rotate_left
                    focus
                      intro w hSw
                      (try dsimp only at hSw)
                      go_simp
                      try with_reducible rfl
                    (try change wpAnyN _ _ _ _ _ _ _ _ (Act.put _ (some 38) _) _)
                    try (unfold Act.put; dsimp only)
                    refine wpAnyN_take [8, 9, 10, 11, 12, 13, 14, 15, 16, 17, 18] (i := 7) (v := ?_) rfl (by kernel_rfl) (by kernel_rfl) (by kernel_rfl) (by kernel_rfl) (by kernel_rfl) (fun _ _ _ h => h) (Or.inl ⟨by first | kernel_rfl | rfl, ?_⟩) (by assumption) ?_
                    rotate_left
                    focus
                      intro w hSw
                      (try dsimp only at hSw)
                      go_simp
                      try with_reducible rfl
                    (try change wpAnyN _ _ _ _ _ _ _ _ (Act.put _ (some 41) _) _)
                    try (unfold Act.put; dsimp only)
                    refine wpAnyN_take [9, 10, 11, 12, 13, 14, 15, 16, 17, 18] (i := 8) (v := ?_) rfl (by kernel_rfl) (by kernel_rfl) (by kernel_rfl) (by kernel_rfl) (by kernel_rfl) (fun _ _ _ h => h) (Or.inl ⟨by first | kernel_rfl | rfl, ?_⟩) (by assumption) ?_
                    rotate_left
                    focus
                      intro w hSw
                      (try dsimp only at hSw)
                      go_simp
                      try with_reducible rfl
                    (try change wpAnyN _ _ _ _ _ _ _ _ (Act.put _ (some 42) _) _)
                    try (unfold Act.put; dsimp only)
                    refine wpAnyN_ready (rs := [5]) (by kernel_rfl) (by simp) ?_
                    refine AllReadyN.cons rfl (fun K hK => ?_) ?_
                    · go_simp
                      go_at_call 27
                      refine (HDG.out _).mono ?_
                      rintro e w5 ⟨rfl, hb5⟩
                      have hbw : Below w1.heap.size w1 w5 := Below.trans (show Below w1.heap.size w1 _ by first | exact hbz.drew | exact hbz) (hb5.mono (by first | exact hszz | (simp; omega)))
                      have hsw := hbw.size
                      dsimp only
                      refine hK.out _ _ ?_ (fun hHeld => ?_)
                      · (try dsimp only)
                        try trivial
                      clear hK K
                      (try change wpAnyN _ _ _ _ _ _ _ _ (Act.put _ (some 39) _) _)
                      try (unfold Act.put; dsimp only)
                      refine wpAnyN_take [9, 10, 11, 12, 13, 14, 15, 16, 17, 18] (i := 6) (v := ?_) rfl (by kernel_rfl) (by kernel_rfl) (by kernel_rfl) (by kernel_rfl) (by kernel_rfl) (fun _ _ _ h => h) (Or.inl ⟨by first | kernel_rfl | rfl, ?_⟩) (by assumption) ?_
                      rotate_left
                      focus
                        intro w hSw
                        (try dsimp only at hSw)
                        go_simp
                        try with_reducible rfl
                      (try change wpAnyN _ _ _ _ _ _ _ _ (Act.put _ (some 40) _) _)
                      try (unfold Act.put; dsimp only)
                      refine wpAnyN_take [10, 11, 12, 13, 14, 15, 16, 17, 18] (i := 9) (v := ?_) rfl (by kernel_rfl) (by kernel_rfl) (by kernel_rfl) (by kernel_rfl) (by kernel_rfl) (fun _ _ _ h => h) (Or.inl ⟨by first | kernel_rfl | rfl, ?_⟩) (by assumption) ?_
                      rotate_left
                      focus
                        intro w hSw
                        (try dsimp only at hSw)
                        go_simp
                        try with_reducible rfl
                      (try change wpAnyN _ _ _ _ _ _ _ _ (Act.put _ (some 43) _) _)
                      try (unfold Act.put; dsimp only)
                      refine wpAnyN_take [11, 12, 13, 14, 15, 16, 17, 18] (i := 10) (v := ?_) rfl (by kernel_rfl) (by kernel_rfl) (by kernel_rfl) (by kernel_rfl) (by kernel_rfl) (fun _ _ _ h => h) (Or.inl ⟨by first | kernel_rfl | rfl, ?_⟩) (by assumption) ?_
                      rotate_left
                      focus
                        intro w hSw
                        (try dsimp only at hSw)
                        go_simp
                        try with_reducible rfl
                      (try change wpAnyN _ _ _ _ _ _ _ _ (Act.put _ (some 44) _) _)
                      try (unfold Act.put; dsimp only)
                      refine wpAnyN_take [12, 13, 14, 15, 16, 17, 18] (i := 11) (v := ?_) rfl (by kernel_rfl) (by kernel_rfl) (by kernel_rfl) (by kernel_rfl) (by kernel_rfl) (fun _ _ _ h => h) (Or.inl ⟨by first | kernel_rfl | rfl, ?_⟩) (by assumption) ?_
                      rotate_left
                      focus
                        intro w hSw
                        (try dsimp only at hSw)
                        go_simp
                        try with_reducible rfl
                      (try change wpAnyN _ _ _ _ _ _ _ _ (Act.put _ (some 45) _) _)
                      try (unfold Act.put; dsimp only)
                      refine wpAnyN_take [14, 15, 17, 18] (i := 12) (v := ?_) rfl (by kernel_rfl) (by kernel_rfl) (by kernel_rfl) (by kernel_rfl) (by kernel_rfl) (fun _ _ _ h => h) (Or.inl ⟨by first | kernel_rfl | rfl, ?_⟩) (by assumption) ?_
                      rotate_left
                      focus
                        intro w hSw
                        (try dsimp only at hSw)
                        go_simp
                        try with_reducible rfl
                      (try change wpAnyN _ _ _ _ _ _ _ _ (Act.put _ (some 46) _) _)
                      try (unfold Act.put; dsimp only)
                      refine wpAnyN_take [14, 15, 17, 18] (i := 13) (v := ?_) rfl (by kernel_rfl) (by kernel_rfl) (by kernel_rfl) (by kernel_rfl) (by kernel_rfl) (fun _ _ _ h => h) (Or.inl ⟨by first | kernel_rfl | rfl, ?_⟩) (by assumption) ?_
                      rotate_left
                      focus
                        intro w hSw
                        (try dsimp only at hSw)
                        go_simp
                        try with_reducible rfl
                      (try change wpAnyN _ _ _ _ _ _ _ _ (Act.put _ (some 47) _) _)
                      try (unfold Act.put; dsimp only)
                      refine wpAnyN_take [15, 17, 18] (i := 14) (v := ?_) rfl (by kernel_rfl) (by kernel_rfl) (by kernel_rfl) (by kernel_rfl) (by kernel_rfl) (fun _ _ _ h => h) (Or.inl ⟨by first | kernel_rfl | rfl, ?_⟩) (by assumption) ?_
                      rotate_left
                      focus
                        intro w hSw
                        (try dsimp only at hSw)
                        go_simp
                        try with_reducible rfl
                      (try change wpAnyN _ _ _ _ _ _ _ _ (Act.put _ (some 48) _) _)
                      try (unfold Act.put; dsimp only)
                      refine wpAnyN_take [17, 18] (i := 16) (v := ?_) rfl (by kernel_rfl) (by kernel_rfl) (by kernel_rfl) (by kernel_rfl) (by kernel_rfl) (fun _ _ _ h => h) (Or.inl ⟨by first | kernel_rfl | rfl, ?_⟩) (by assumption) ?_
                      rotate_left
                      focus
                        intro w hSw
                        (try dsimp only at hSw)
                        go_simp
                        try with_reducible rfl
                      (try change wpAnyN _ _ _ _ _ _ _ _ (Act.put _ (some 50) _) _)
                      try (unfold Act.put; dsimp only)
                      refine wpAnyN_ready (rs := [15]) (by kernel_rfl) (by simp) ?_
                      refine AllReadyN.cons rfl (fun K hK => ?_) ?_
                      · go_simp
                        go_at_call 18
                        refine (HTXJ.out _).mono ?_
                        rintro e w6 ⟨rfl, hb6⟩
                        have hbv : Below w1.heap.size w1 w6 := hbw.trans (hb6.mono hsw)
                        dsimp only
                        refine hK.out _ _ ?_ (fun hHeld => ?_)
                        · (try dsimp only)
                          try trivial
                        clear hK K
                        (try change wpAnyN _ _ _ _ _ _ _ _ (Act.put _ (some 49) _) _)
                        try (unfold Act.put; dsimp only)
                        refine wpAnyN_take [18] (i := 17) (v := ?_) rfl (by kernel_rfl) (by kernel_rfl) (by kernel_rfl) (by kernel_rfl) (by kernel_rfl) (fun _ _ _ h => h) (Or.inl ⟨by first | kernel_rfl | rfl, ?_⟩) (by assumption) ?_
                        rotate_left
                        focus
                          intro w hSw
                          (try dsimp only at hSw)
                          go_simp
                          try with_reducible rfl
                        (try change wpAnyN _ _ _ _ _ _ _ _ (Act.put _ (some 51) _) _)
                        try (unfold Act.put; dsimp only)
                        refine wpAnyN_take [] (i := 18) (v := ?_) rfl (by kernel_rfl) (by kernel_rfl) (by kernel_rfl) (by kernel_rfl) (by kernel_rfl) (fun _ _ _ h => h) (Or.inl ⟨by first | kernel_rfl | rfl, ?_⟩) (by assumption) ?_
                        rotate_left
                        focus
                          intro w hSw
                          (try dsimp only at hSw)
                          go_simp
                          try with_reducible rfl
                        (try change wpAnyN _ _ _ _ _ _ _ _ (Act.put _ (some 52) _) _)
                        try (unfold Act.put; dsimp only)
                        refine wpAnyN_done (by kernel_rfl) ?_ _
                        (simp only [List.setIfInBounds_toArray, List.set_cons_succ, List.set_cons_zero])
                        -- the result's cells behind hbv : Below (w.alloc) w6
                        have r0' := ((hbv).cell (p := ⟨w.heap.size, 0, none⟩) (by have := HS1.out; show w.heap.size < _; omega)).trans HR0.out
                        have r1' := ((hbv).cell (p := ⟨w.heap.size, 1, none⟩) (by have := HS1.out; show w.heap.size < _; omega)).trans HR1.out
                        have fz' := ((hbv).frozen (p := ⟨w.heap.size, 0, none⟩) (by have := HS1.out; show w.heap.size < _; omega)).trans HZ0.out
                        have fz1' := ((hbv).frozen (p := ⟨w.heap.size, 1, none⟩) (by have := HS1.out; show w.heap.size < _; omega)).trans HZ1.out
                        obtain ⟨q0, q1⟩ := set2 r0' r1' (.int .i64 K) (.int .i64 j)
                        have HBF := Lib.hid (show Below w.heap.size w (((w6).setCell ⟨w.heap.size, 0, none⟩ (.int .i64 K)).setCell ⟨w.heap.size, 1, none⟩ (.int .i64 j)) from Below.setCell (Below.setCell (HBA.out.trans ((hbv).mono (by have := HS1.out; omega))) (Nat.le_refl _) _) (Nat.le_refl _) _)
                        go_wp2
                        refine bodyPost_ret (by simp [results, Tryd.results10, go_sem, q0, q1] <;> rfl) rfl ?_
                        rw [HN.out]
                        exact ⟨rfl, HBF.out⟩
                      exact AllReadyN.nil
                    exact AllReadyN.nil
                · have hcc' : ((c0.toNat : Int) == c1.toNat) = false := by
                    have : c0.toNat ≠ c1.toNat := fun h => hcc (UInt8.toNat_inj.1 h)
                    simp; omega
                  have HT := Lib.hid (HEND.out (fun h => by
                    have := text_head K j
                    rw [h, HC0.out, HC1.out] at this
                    exact hcc (by simpa using this.symm)))
                  clear hs0
                  go_wp2
                  refine wp_region_N (S := (fun _ => True)) (fun i => true) (by kernel_rfl) ?_ (fun hHeld => ?_)
                  · (try dsimp only)
                    try trivial
                  refine wpAnyN_take [1, 2, 3, 4, 5, 6, 7, 8, 9, 10, 11, 12, 13, 14, 15, 16, 17, 18] (i := 0) (v := ?_) rfl (by kernel_rfl) (by kernel_rfl) (by kernel_rfl) (by kernel_rfl) (by kernel_rfl) (fun _ _ _ h => h) (Or.inl ⟨by first | kernel_rfl | rfl, ?_⟩) (by assumption) ?_
                  rotate_left
                  focus
                    intro w hSw
                    (try dsimp only at hSw)
                    go_simp
                    try with_reducible rfl
                  (try change wpAnyN _ _ _ _ _ _ _ _ (Act.put _ (some 34) _) _)
                  try (unfold Act.put; dsimp only)
                  refine wpAnyN_take [2, 3, 4, 5, 6, 7, 8, 9, 10, 11, 12, 13, 14, 15, 16, 17, 18] (i := 1) (v := ?_) rfl (by kernel_rfl) (by kernel_rfl) (by kernel_rfl) (by kernel_rfl) (by kernel_rfl) (fun _ _ _ h => h) (Or.inl ⟨by first | kernel_rfl | rfl, ?_⟩) (by assumption) ?_
                  rotate_left
                  focus
                    intro w hSw
                    (try dsimp only at hSw)
                    go_simp
                    try with_reducible rfl
                  (try change wpAnyN _ _ _ _ _ _ _ _ (Act.put _ (some 35) _) _)
                  try (unfold Act.put; dsimp only)
                  refine wpAnyN_take [3, 4, 5, 6, 7, 8, 9, 10, 11, 12, 13, 14, 15, 16, 17, 18] (i := 2) (v := ?_) rfl (by kernel_rfl) (by kernel_rfl) (by kernel_rfl) (by kernel_rfl) (by kernel_rfl) (fun _ _ _ h => h) (Or.inl ⟨by first | kernel_rfl | rfl, ?_⟩) (by assumption) ?_
                  rotate_left
                  focus
                    intro w hSw
                    (try dsimp only at hSw)
                    go_simp
                    try with_reducible rfl
                  (try change wpAnyN _ _ _ _ _ _ _ _ (Act.put _ (some 36) _) _)
                  try (unfold Act.put; dsimp only)
                  refine wpAnyN_take [4, 5, 6, 7, 8, 9, 10, 11, 12, 13, 14, 15, 16, 17, 18] (i := 3) (v := ?_) rfl (by kernel_rfl) (by kernel_rfl) (by kernel_rfl) (by kernel_rfl) (by kernel_rfl) (fun _ _ _ h => h) (Or.inl ⟨by first | kernel_rfl | rfl, ?_⟩) (by assumption) ?_
                  rotate_left
                  focus
                    intro w hSw
                    (try dsimp only at hSw)
                    go_simp
                    try with_reducible rfl
                  (try change wpAnyN _ _ _ _ _ _ _ _ (Act.put _ (some 37) _) _)
                  try (unfold Act.put; dsimp only)
                  refine wpAnyN_take [5, 6, 9, 10, 11, 12, 13, 14, 15, 16, 17, 18] (i := 4) (v := ?_) rfl (by kernel_rfl) (by kernel_rfl) (by kernel_rfl) (by kernel_rfl) (by kernel_rfl) (fun _ _ _ h => h) (Or.inl ⟨by first | kernel_rfl | rfl, ?_⟩) (by assumption) ?_
                  rotate_left
                  focus
                    intro w hSw
                    (try dsimp only at hSw)
                    go_simp
                    try with_reducible rfl
                  (try change wpAnyN _ _ _ _ _ _ _ _ (Act.put _ (some 38) _) _)
                  try (unfold Act.put; dsimp only)
                  refine wpAnyN_take [8, 9, 10, 11, 12, 13, 14, 15, 16, 17, 18] (i := 7) (v := ?_) rfl (by kernel_rfl) (by kernel_rfl) (by kernel_rfl) (by kernel_rfl) (by kernel_rfl) (fun _ _ _ h => h) (Or.inl ⟨by first | kernel_rfl | rfl, ?_⟩) (by assumption) ?_
                  rotate_left
                  focus
                    intro w hSw
                    (try dsimp only at hSw)
                    go_simp
                    try with_reducible rfl
                  (try change wpAnyN _ _ _ _ _ _ _ _ (Act.put _ (some 41) _) _)
                  try (unfold Act.put; dsimp only)
                  refine wpAnyN_take [9, 10, 11, 12, 13, 14, 15, 16, 17, 18] (i := 8) (v := ?_) rfl (by kernel_rfl) (by kernel_rfl) (by kernel_rfl) (by kernel_rfl) (by kernel_rfl) (fun _ _ _ h => h) (Or.inl ⟨by first | kernel_rfl | rfl, ?_⟩) (by assumption) ?_
                  rotate_left
                  focus
                    intro w hSw
                    (try dsimp only at hSw)
                    go_simp
                    try with_reducible rfl
                  (try change wpAnyN _ _ _ _ _ _ _ _ (Act.put _ (some 42) _) _)
                  try (unfold Act.put; dsimp only)
                  refine wpAnyN_ready (rs := [5]) (by kernel_rfl) (by simp) ?_
                  refine AllReadyN.cons rfl (fun K hK => ?_) ?_
                  · go_simp
                    go_at_call 27
                    refine (HDG.out _).mono ?_
                    rintro e w5 ⟨rfl, hb5⟩
                    have hbw : Below w1.heap.size w1 w5 := Below.trans (show Below w1.heap.size w1 _ by first | exact hbz.drew | exact hbz) (hb5.mono (by first | exact hszz | (simp; omega)))
                    dsimp only
                    refine hK.out _ _ ?_ (fun hHeld => ?_)
                    · (try dsimp only)
                      try trivial
                    clear hK K
                    (try change wpAnyN _ _ _ _ _ _ _ _ (Act.put _ (some 39) _) _)
                    try (unfold Act.put; dsimp only)
                    refine wpAnyN_take [9, 10, 11, 12, 13, 14, 15, 16, 17, 18] (i := 6) (v := ?_) rfl (by kernel_rfl) (by kernel_rfl) (by kernel_rfl) (by kernel_rfl) (by kernel_rfl) (fun _ _ _ h => h) (Or.inl ⟨by first | kernel_rfl | rfl, ?_⟩) (by assumption) ?_
                    rotate_left
                    focus
                      intro w hSw
                      (try dsimp only at hSw)
                      go_simp
                      try with_reducible rfl
                    (try change wpAnyN _ _ _ _ _ _ _ _ (Act.put _ (some 40) _) _)
                    try (unfold Act.put; dsimp only)
                    refine wpAnyN_take [10, 11, 12, 13, 14, 15, 16, 17, 18] (i := 9) (v := ?_) rfl (by kernel_rfl) (by kernel_rfl) (by kernel_rfl) (by kernel_rfl) (by kernel_rfl) (fun _ _ _ h => h) (Or.inl ⟨by first | kernel_rfl | rfl, ?_⟩) (by assumption) ?_
                    rotate_left
                    focus
                      intro w hSw
                      (try dsimp only at hSw)
                      go_simp
                      try with_reducible rfl
                    (try change wpAnyN _ _ _ _ _ _ _ _ (Act.put _ (some 43) _) _)
                    try (unfold Act.put; dsimp only)
                    refine wpAnyN_take [11, 12, 13, 14, 15, 16, 17, 18] (i := 10) (v := ?_) rfl (by kernel_rfl) (by kernel_rfl) (by kernel_rfl) (by kernel_rfl) (by kernel_rfl) (fun _ _ _ h => h) (Or.inl ⟨by first | kernel_rfl | rfl, ?_⟩) (by assumption) ?_
                    rotate_left
                    focus
                      intro w hSw
                      (try dsimp only at hSw)
                      go_simp
                      try with_reducible rfl
                    (try change wpAnyN _ _ _ _ _ _ _ _ (Act.put _ (some 44) _) _)
                    try (unfold Act.put; dsimp only)
                    refine wpAnyN_take [12, 13, 14, 15, 16, 17, 18] (i := 11) (v := ?_) rfl (by kernel_rfl) (by kernel_rfl) (by kernel_rfl) (by kernel_rfl) (by kernel_rfl) (fun _ _ _ h => h) (Or.inl ⟨by first | kernel_rfl | rfl, ?_⟩) (by assumption) ?_
                    rotate_left
                    focus
                      intro w hSw
                      (try dsimp only at hSw)
                      go_simp
                      try with_reducible rfl
                    (try change wpAnyN _ _ _ _ _ _ _ _ (Act.put _ (some 45) _) _)
                    try (unfold Act.put; dsimp only)
                    refine wpAnyN_take [14, 15, 17, 18] (i := 12) (v := undef) rfl (by kernel_rfl) (by kernel_rfl) (by kernel_rfl) (by kernel_rfl) (by kernel_rfl) (fun _ _ _ h => h) (Or.inr ⟨by first | kernel_rfl | rfl, rfl⟩) (by assumption) ?_
                    (try change wpAnyN _ _ _ _ _ _ _ _ (Act.put _ (some 46) _) _)
                    try (unfold Act.put; dsimp only)
                    refine wpAnyN_take [14, 15, 17, 18] (i := 13) (v := undef) rfl (by kernel_rfl) (by kernel_rfl) (by kernel_rfl) (by kernel_rfl) (by kernel_rfl) (fun _ _ _ h => h) (Or.inr ⟨by first | kernel_rfl | rfl, rfl⟩) (by assumption) ?_
                    (try change wpAnyN _ _ _ _ _ _ _ _ (Act.put _ (some 47) _) _)
                    try (unfold Act.put; dsimp only)
                    refine wpAnyN_take [15, 17, 18] (i := 14) (v := undef) rfl (by kernel_rfl) (by kernel_rfl) (by kernel_rfl) (by kernel_rfl) (by kernel_rfl) (fun _ _ _ h => h) (Or.inr ⟨by first | kernel_rfl | rfl, rfl⟩) (by assumption) ?_
                    (try change wpAnyN _ _ _ _ _ _ _ _ (Act.put _ (some 48) _) _)
                    try (unfold Act.put; dsimp only)
                    refine wpAnyN_take [17, 18] (i := 15) (v := undef) rfl (by kernel_rfl) (by kernel_rfl) (by kernel_rfl) (by kernel_rfl) (by kernel_rfl) (fun _ _ _ h => h) (Or.inr ⟨by first | kernel_rfl | rfl, rfl⟩) (by assumption) ?_
                    (try change wpAnyN _ _ _ _ _ _ _ _ (Act.put _ (some 49) _) _)
                    try (unfold Act.put; dsimp only)
                    refine wpAnyN_take [17, 18] (i := 16) (v := undef) rfl (by kernel_rfl) (by kernel_rfl) (by kernel_rfl) (by kernel_rfl) (by kernel_rfl) (fun _ _ _ h => h) (Or.inr ⟨by first | kernel_rfl | rfl, rfl⟩) (by assumption) ?_
                    (try change wpAnyN _ _ _ _ _ _ _ _ (Act.put _ (some 50) _) _)
                    try (unfold Act.put; dsimp only)
                    refine wpAnyN_take [18] (i := 17) (v := undef) rfl (by kernel_rfl) (by kernel_rfl) (by kernel_rfl) (by kernel_rfl) (by kernel_rfl) (fun _ _ _ h => h) (Or.inr ⟨by first | kernel_rfl | rfl, rfl⟩) (by assumption) ?_
                    (try change wpAnyN _ _ _ _ _ _ _ _ (Act.put _ (some 51) _) _)
                    try (unfold Act.put; dsimp only)
                    refine wpAnyN_take [] (i := 18) (v := ?_) rfl (by kernel_rfl) (by kernel_rfl) (by kernel_rfl) (by kernel_rfl) (by kernel_rfl) (fun _ _ _ h => h) (Or.inl ⟨by first | kernel_rfl | rfl, ?_⟩) (by assumption) ?_
                    rotate_left
                    focus
                      intro w hSw
                      (try dsimp only at hSw)
                      go_simp
                      try with_reducible rfl
                    (try change wpAnyN _ _ _ _ _ _ _ _ (Act.put _ (some 52) _) _)
                    try (unfold Act.put; dsimp only)
                    refine wpAnyN_done (by kernel_rfl) ?_ _
                    (simp only [List.setIfInBounds_toArray, List.set_cons_succ, List.set_cons_zero])
                    go_wp2
                    exact ⟨⟨hbw, j + 1, by omega, by simp, HT.out⟩, by simp [intOf]; omega⟩
                  exact AllReadyN.nil
            · have hj4 : j = 251 := by omega
              subst hj4
              have HT := Lib.hid (show ∀ t r, t < m + 1 → r ≤ 250 → textL (t + 1) r ≠ s.data.toList from fun t r ht hr => by
                rcases Nat.lt_or_ge t m with h' | h'
                · exact HNO.out t r h' hr
                · rw [show t + 1 = K by have := HK.out; omega]; exact HNR.out r (by omega))
              go_wp2
              exact ⟨⟨hbz, m + 1, by omega, by have := HK.out; congr 1; omega, HT.out⟩, by have := HK.out; simp [intOf]; omega⟩
        · have hm4 : m = 250 := by omega
          subst hm4
          have HN := Lib.hid (readL_none HFULL.out (fun t r h1 h2 h3 => by
            have := HNO.out (t - 1) r (by omega) h3
            rwa [show t - 1 + 1 = t by omega] at this))
          rw [HSZ.out] at HN
          -- the result's cells behind hby : Below (w.alloc) wr
          have r0' := ((hby).cell (p := ⟨w.heap.size, 0, none⟩) (by have := HS1.out; show w.heap.size < _; omega)).trans HR0.out
          have r1' := ((hby).cell (p := ⟨w.heap.size, 1, none⟩) (by have := HS1.out; show w.heap.size < _; omega)).trans HR1.out
          have fz' := ((hby).frozen (p := ⟨w.heap.size, 0, none⟩) (by have := HS1.out; show w.heap.size < _; omega)).trans HZ0.out
          have fz1' := ((hby).frozen (p := ⟨w.heap.size, 1, none⟩) (by have := HS1.out; show w.heap.size < _; omega)).trans HZ1.out
          obtain ⟨q0, q1⟩ := set2 r0' r1' (.int .i64 0) (.int .i64 0)
          have HBF := Lib.hid (show Below w.heap.size w (((wr).setCell ⟨w.heap.size, 0, none⟩ (.int .i64 0)).setCell ⟨w.heap.size, 1, none⟩ (.int .i64 0)) from Below.setCell (Below.setCell (HBA.out.trans ((hby).mono (by have := HS1.out; omega))) (Nat.le_refl _) _) (Nat.le_refl _) _)
          go_wp2
          refine bodyPost_ret (by simp [results, Tryd.results10, go_sem, q0, q1] <;> rfl) rfl ?_
          rw [HN.out]
          exact ⟨rfl, HBF.out⟩
end Go.Proofs.YtonphamahnagfaaDoor

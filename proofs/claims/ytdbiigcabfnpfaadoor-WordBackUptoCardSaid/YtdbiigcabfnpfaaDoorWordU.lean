/-
  catchboltref03.Take: over any bytes, any place, any width. No other conditions.
-/
import Derived.Test.YtdbiigcabfnpfaaDoorWordT
namespace Go.Proofs.YtdbiigcabfnpfaaDoor
open Go.ChangeShapes Go.WideShapes Go.ChangeAt Go.RowKit
set_option linter.unusedVariables false

set_option maxRecDepth 100000 in
set_option maxHeartbeats 1000000 in
theorem rtake_any (A : Option Addr) (n c : Nat) (zb : List Int) (pl : Nat) (width : Int) (w : World) (hl : zb.length = n) (h : RdN .u8 w A zb) (hr : ∀ x ∈ zb, 0 ≤ x ∧ x < 256) (hpl : pl ≤ n) (hbig : n ≤ 140737488355328) (hwf : (Lit.int .i64 width).wf = true) :
    Calls Tryd.prog 16 #[.slice A n c, .int .i64 pl, .int .i64 width] w fun e w' => e = .returned (.tuple #[.int .i64 (takeS zb pl width).1, .int .i64 (takeS zb pl width).2.1]) ∧ w = w' := by
  have HLen := Lib.hid hl
  have HR := Lib.hid h
  clear hl h
  rcases hok : okW width with _ | _
  · have HT := Lib.hid (takeS_bad (zb := zb) (pl := pl) hok)
    have hno : width < 1 ∨ 4 < width := by
      have : ¬ (1 ≤ width ∧ width ≤ 4) := fun h => by rw [okW_iff.2 h] at hok; cases hok
      omega
    clear hok
    rw [HT.out]
    go_enter Tryd.func16, Tryd.ntmps16
    rcases hno with hno | hno
    · go_wp2
      all_goals
        go_ret2
        exact ⟨rfl, rfl⟩
    · have hno1 : ¬ width < 1 := by omega
      go_wp2
      all_goals
        go_ret2
        exact ⟨rfl, rfl⟩
  · obtain ⟨hw1, hw4⟩ := okW_iff.1 hok
    obtain ⟨W, rfl⟩ := Int.eq_ofNat_of_zero_le (show 0 ≤ width by omega)
    have hW1 : 1 ≤ W := by omega
    have hW4 : W ≤ 4 := by omega
    have HK := Lib.hid hok
    clear hok
    by_cases hs : n < pl + W
    · have HT := Lib.hid (takeS_short (zb := zb) (pl := pl) HK.out (by rw [HLen.out]; simpa using hs))
      rw [HT.out]
      have hgt : ((n : Int) < pl + W) := by omega
      go_enter Tryd.func16, Tryd.ntmps16
      go_wp2
      go_ret2
      exact ⟨rfl, rfl⟩
    · have HT := Lib.hid (takeS_ok (zb := zb) (pl := pl) HK.out (by rw [HLen.out]; simpa using hs))
      have hgt : ¬ ((n : Int) < pl + W) := by omega
      rw [HT.out]
      go_enter Tryd.func16, Tryd.ntmps16
      go_wp2
      clear hgt
      go_loopw [8, 9] (fun nn i w1 => w1 = w ∧ ∃ k : Nat, k ≤ W ∧ i = .int .i64 k ∧ nn = .int .i64 (num 0 ((zb.drop pl).take k))) (fun _ i _ => W - (intOf i).toNat)
      case atStart => exact ⟨rfl, 0, by omega, rfl, rfl⟩
      case round =>
        obtain ⟨rfl, k, hk, rfl, rfl⟩ := hrel
        by_cases hlt : k < W
        · have hlt' : (k : Int) < W := by omega
          have hst := num_step (zb := zb) (pl := pl) (k := k) (by rw [HLen.out]; omega)
          obtain ⟨hn1, hn2⟩ := num_small (zb := zb) (pl := pl) (k := k) hr (by omega)
          have hbyte : 0 ≤ zb.getD (pl + k) 0 ∧ zb.getD (pl + k) 0 < 256 := by
            have hlen : pl + k < zb.length := by rw [HLen.out]; omega
            rw [List.getD_eq_getElem?_getD, List.getElem?_eq_getElem hlen]
            exact hr _ (List.getElem_mem hlen)
          obtain ⟨hy1, hy2⟩ := hbyte
          obtain ⟨q, off, hA, hc⟩ := HR.out
          obtain ⟨rfl, hq⟩ := hA (by rw [HLen.out]; omega)
          have cr := hc (pl + k) (by rw [HLen.out]; omega)
          have HST := Lib.hid hst
          clear hst hA hc
          generalize num 0 ((zb.drop pl).take k) = N at *
          generalize zb.getD (pl + k) 0 = y at *
          go_wp2
          refine ⟨⟨trivial, k + 1, by omega, by simp, ?_⟩, ?_⟩
          · rw [HST.out]
          · simp [intOf]; omega
        · have hk' : k = W := by omega
          subst hk'
          have hge : ¬ (k : Int) < k := by omega
          go_wp2
          go_ret2
          exact ⟨rfl, rfl⟩
end Go.Proofs.YtdbiigcabfnpfaaDoor

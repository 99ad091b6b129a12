/-
  word.Put: over any bytes and numbers, whose lengths leave room. No other conditions.
-/
import Derived.Test.YtdbiigcabfnpfaaDoorWordB
import Derived.Deep.RegionHeld3
namespace Go.Proofs.YtdbiigcabfnpfaaDoor
open Go.ChangeShapes Go.WideShapes Go.ChangeAt Go.RowKit
set_option linter.unusedVariables false

theorem putS_bad {zb zl : List Int} {width : Int} (h : okW width = false) : putS width zb zl = ([], 1, -1) := by unfold putS; rw [if_pos h]
theorem putS_no {zb zl : List Int} {width : Int} (h : okW width = true) (h2 : firstBad width.toNat zl < zl.length) : putS width zb zl = ([], 2, (firstBad width.toNat zl : Int)) := by
  unfold putS; rw [if_neg (by rw [h]; decide), if_pos h2]
theorem putS_ok {zb zl : List Int} {width : Int} (h : okW width = true) (h2 : ¬ firstBad width.toNat zl < zl.length) : putS width zb zl = (zb ++ putB width.toNat zl, 0, -1) := by
  unfold putS; rw [if_neg (by rw [h]; decide), if_neg h2]
theorem numV_one (k : IntKind) (z : Int) : numV k [z] = [Value.int k z] := rfl
theorem shift_byte (z : Int) (k : Nat) : z / 2 ^ (8 * k) % 256 = z / pow256 k % 256 := by rw [pow256_two]

set_option maxRecDepth 100000 in
set_option maxHeartbeats 4000000 in
theorem put_any (A L : Option Addr) (n c m cm : Nat) (zb zl : List Int) (width : Int) (w : World) (hl : zb.length = n) (h : RdN .u8 w A zb) (hm : zl.length = m) (hL : RdN .i64 w L zl)
    (hbig : n + 4 * m ≤ 140737488355328) (hwf : (Lit.int .i64 width).wf = true) :
    Calls Tryd.prog 8 #[.slice A n c, .int .i64 width, .slice L m cm] w fun e w' => (∃ A' n' c' ev, e = .returned (.tuple #[.slice A' n' c', ev]) ∧ RdN .u8 w' A' (putS width zb zl).1 ∧ (putS width zb zl).1.length = n' ∧ n' ≤ c' ∧ c' ≤ maxLen ∧ (A' = none → n' = 0 ∧ c' = 0) ∧ ErrIs w' ev (putS width zb zl).2.1 (putS width zb zl).2.2) ∧ Below w.heap.size w w' := by
  have HL := Lib.hid hl
  have HM := Lib.hid hm
  have HR := Lib.hid h
  have HRL := Lib.hid hL
  have HC := Lib.hid (clone_any A n c zb w hl h (by omega))
  clear hl hm h hL
  rcases hok : okW width with _ | _
  · have HT := Lib.hid (putS_bad (zb := zb) (zl := zl) hok)
    rw [HT.out]
    have HK := Lib.hid hok
    clear hok
    go_enter Tryd.func8, Tryd.ntmps8
    go_wp2_with (go_at_call 19; refine (right_no _ _ HK.out).mono ?_; rintro e w' ⟨rfl, rfl⟩)
    go_ret2
    exact ⟨⟨none, 0, 0, _, rfl, rdn_nil _ _ _, rfl, by omega, by unfold maxLen; omega, fun _ => ⟨rfl, rfl⟩, .inr (.inl ⟨rfl, by decide, by decide, rfl⟩)⟩, Below.refl _ _⟩
  · obtain ⟨hw1, hw4⟩ := okW_iff.1 hok
    obtain ⟨W, rfl⟩ := Int.eq_ofNat_of_zero_le (show 0 ≤ width by omega)
    have hW1 : 1 ≤ W := by omega
    have hW4 : W ≤ 4 := by omega
    have HK := Lib.hid hok
    clear hok
    have hP := pow256_le hW4
    have hP0 := pow256_pos W
    have hPW := pow256_two W
    have hB0 := firstBad_le W zl
    rw [HM.out] at hB0
    go_enter Tryd.func8, Tryd.ntmps8
    go_wp2_with (go_at_call 19; refine (right_yes _ _ HK.out).mono ?_; rintro e w' ⟨rfl, rfl⟩)
    refine HC.out.mono ?_
    rintro e w1 ⟨⟨v1, rfl, hown1⟩, hb1⟩
    go_wp2
    go_loopw [8, 20] (fun o i wr => Below w.heap.size w wr ∧ ∃ k : Nat, k ≤ firstBad W zl ∧ i = .int .i64 k ∧ wr.ownsRow w.heap.size 5 1 o (n + W * k) (numV .u8 (zb ++ putB W (zl.take k)))) (fun _ i _ => firstBad W zl - (intOf i).toNat)
    case atStart => exact ⟨hb1, 0, by omega, rfl, by simpa [putB] using hown1⟩
    case round =>
      obtain ⟨hbr, k, hk, rfl, hown⟩ := hrel
      have hsr := hbr.size
      by_cases hkm : k < m
      · have hkm' : (k : Int) < m := by omega
        obtain ⟨q, off, hQ, hc⟩ := HRL.out.below hbr
        obtain ⟨rfl, hq⟩ := hQ (by rw [HM.out]; omega)
        have cz := hc k (by rw [HM.out]; omega)
        clear hc hQ
        rcases hin : inW W (zl.getD k 0) with _ | _
        · have hno := inW_no hin
          have hfb := firstBad_lt (W := W) (l := zl) (k := k) (by rw [HM.out]; omega) (fun i hi => firstBad_ok (by omega)) hin
          have HT := Lib.hid (putS_no (zb := zb) (zl := zl) HK.out (by rw [Int.toNat_natCast, hfb, HM.out]; exact hkm))
          rw [Int.toNat_natCast, hfb] at HT
          clear hfb hin hk
          have hbA : Below w.heap.size w (wr.alloc (.cells #[.int .i64 k, .iface 47 (.int .i64 2)] 51)) := hbr.alloc hsr _
          generalize zl.getD k 0 = z at *
          go_wp2
          all_goals
            go_ret2
            rw [HT.out]
            exact ⟨⟨none, 0, 0, _, rfl, rdn_nil _ _ _, rfl, by omega, by unfold maxLen; omega, fun _ => ⟨rfl, rfl⟩, .inr (.inr ⟨wr.heap.size, rfl, by simp, by simp, by simp, by simp⟩)⟩, hbA⟩
        · obtain ⟨hz0, hz1⟩ := inW_iff.1 hin
          have hkf : k < firstBad W zl := by
            rcases Nat.lt_or_ge k (firstBad W zl) with h | h
            · exact h
            · have := firstBad_bad (W := W) (l := zl) (by rw [HM.out]; omega)
              rw [show firstBad W zl = k by omega] at this
              rw [this] at hin; cases hin
          have HSn := Lib.hid (take_snoc (l := zl) (k := k) (by rw [HM.out]; omega))
          have hWk : W * (k + 1) ≤ 4 * m := Nat.mul_le_mul hW4 hkm
          rw [Nat.mul_succ] at hWk
          clear hin
          generalize zl.getD k 0 = z at *
          generalize hTT : zb ++ putB W (zl.take k) = T at *
          generalize hNN : n + W * k = NN at *
          have hNW : NN + W ≤ 140737488355328 := by omega
          have HNN := Lib.hid hNN
          have HTT := Lib.hid hTT
          clear hTT hNN hWk
          go_wp2
          go_loopw [8, 11] (fun o j wx => Below w.heap.size w wx ∧ ∃ (r m' : Nat) (cur : List Int), ((r = 0 ∧ j = .int .i64 (-1)) ∨ ∃ r', r = r' + 1 ∧ r ≤ W ∧ j = .int .i64 r') ∧ m' + r = NN + W ∧ cur ++ hi z r = T ++ hi z W ∧ wx.ownsRow w.heap.size 5 1 o m' (numV .u8 cur)) (fun _ j _ => (intOf j + 1).toNat)
          case atStart => exact ⟨hbr, W, NN, T, .inr ⟨W - 1, by omega, by omega, by rw [show ((W - 1 : Nat) : Int) = (W : Int) - 1 by omega]⟩, rfl, rfl, hown⟩
          case round =>
            obtain ⟨hbx, r, m', cur, hj, hmr, hcur, hownx⟩ := hrel
            have hsx := hbx.size
            rcases hj with ⟨rfl, rfl⟩ | ⟨r', rfl, hrW, rfl⟩
            · go_wp2
              have hN2 : NN + W = n + W * (k + 1) := by rw [Nat.mul_succ, ← HNN.out]; omega
              refine ⟨⟨hbx, k + 1, hkf, by simp, ?_⟩, by simp [intOf]; omega⟩
              simp only [hi, List.append_nil] at hcur
              rw [hcur] at hownx
              rw [← hN2, HSn.out, putB_snoc, ← List.append_assoc, HTT.out, show NN + W = m' by omega]
              exact hownx
            · have hp2 := pow256_two r'
              have hpp := pow256_pos r'
              have hq0 : 0 ≤ z / pow256 r' := Int.ediv_nonneg hz0 (by omega)
              have hownA := hownx.alloc (.cells #[.int .u8 (z / pow256 r' % 256)] 5)
              have hbA := hbx.alloc hsx (.cells #[.int .u8 (z / pow256 r' % 256)] 5)
              have hsA := hbA.size
              have HCur := Lib.hid hcur
              clear hcur
              go_wp2_with (at_builtin; refine wpList_append_nums rfl _ _ rfl rfl Tryd.underlying22 u8_info (by decide) w.heap.size _ _ _ rfl hownA _ 1 1 _ rfl rfl (rdn_one .u8 _ _ _) hsA (by omega) ?_; intro v7 w7 hown7 hg7)
              refine ⟨⟨hbA.grown hg7 hsA (fun q hq => (hownA.lt q hq).1), r', m' + 1, cur ++ [z / pow256 r' % 256], ?_, by omega, ?_, ?_⟩, by simp [intOf]⟩
              · rcases Nat.eq_zero_or_pos r' with h0 | h0
                · exact .inl ⟨h0, by rw [h0]; rfl⟩
                · exact .inr ⟨r' - 1, by omega, by omega, by rw [show ((r' - 1 : Nat) : Int) = (r' : Int) - 1 by omega]⟩
              · rw [← HCur.out, List.append_assoc]; rfl
              · rw [numV_append]; exact hown7
      · have hkm' : k = m := by omega
        subst hkm'
        have hge : ¬ (k : Int) < k := by omega
        have hfb : firstBad W zl = k := by omega
        have HT := Lib.hid (putS_ok (zb := zb) (zl := zl) HK.out (by rw [Int.toNat_natCast, hfb, HM.out]; omega))
        rw [Int.toNat_natCast] at HT
        rw [List.take_of_length_le (by rw [HM.out]; omega)] at hown
        obtain ⟨hlo, A1, c1, rfl, hc1, hm1, hR1, hB1⟩ := rdn_of_own hown
        clear hfb hk hB0
        generalize n + W * k = NN at *
        go_wp2_with (go_at_call 21; refine (clip_any _ _ _ _ hc1 hm1).mono ?_; rintro e w' ⟨rfl, rfl⟩)
        go_ret2
        rw [HT.out]
        refine ⟨⟨A1, NN, NN, _, rfl, hR1, hlo, Nat.le_refl _, by omega, fun e => ?_, .inl ⟨rfl, rfl, rfl⟩⟩, hbr⟩
        obtain ⟨g, o, h1, _⟩ := hR1
        rcases Nat.eq_zero_or_pos NN with h | h
        · exact ⟨h, h⟩
        · have := (h1 (by omega)).1
          rw [e] at this; cases this
end Go.Proofs.YtdbiigcabfnpfaaDoor

/-
  (*Reader).Take: over any bytes, any place, any width. No other conditions.
-/
import Derived.Test.YtdbiigcabfnpfaaDoorWordR
import Derived.Deep.RegionHeld3
namespace Go.Proofs.YtdbiigcabfnpfaaDoor
open Go.ChangeShapes Go.WideShapes Go.ChangeAt Go.RowKit
set_option linter.unusedVariables false

theorem takeS_bad {zb : List Int} {pl : Nat} {width : Int} (h : okW width = false) : takeS zb pl width = (0, 1, -1) := by unfold takeS; rw [if_pos h]
theorem takeS_short {zb : List Int} {pl : Nat} {width : Int} (h : okW width = true) (h2 : zb.length < pl + width.toNat) : takeS zb pl width = (0, 3, (zb.length : Int)) := by
  unfold takeS; rw [if_neg (by rw [h]; decide), if_pos h2]
theorem takeS_ok {zb : List Int} {pl : Nat} {width : Int} (h : okW width = true) (h2 : ¬ zb.length < pl + width.toNat) : takeS zb pl width = (num 0 ((zb.drop pl).take width.toNat), 0, -1) := by
  unfold takeS; rw [if_neg (by rw [h]; decide), if_neg h2]
theorem num_step {zb : List Int} {pl k : Nat} (h : pl + k < zb.length) : num 0 ((zb.drop pl).take (k + 1)) = 256 * num 0 ((zb.drop pl).take k) + zb.getD (pl + k) 0 := by
  rw [take_snoc (by simp; omega), num_append]
  have e : (zb.drop pl).getD k 0 = zb.getD (pl + k) 0 := by simp [List.getD_eq_getElem?_getD]
  rw [e]; rfl
theorem num_small {zb : List Int} {pl k : Nat} (hr : ∀ x ∈ zb, 0 ≤ x ∧ x < 256) (hk : k ≤ 3) : 0 ≤ num 0 ((zb.drop pl).take k) ∧ num 0 ((zb.drop pl).take k) < 16777216 := by
  obtain ⟨h1, h2⟩ := num_bound ((zb.drop pl).take k) 0 (by omega) (fun x hx => hr x (List.mem_of_mem_drop (List.mem_of_mem_take hx)))
  refine ⟨h1, Int.lt_of_lt_of_le h2 ?_⟩
  have hl : ((zb.drop pl).take k).length ≤ 3 := by simp; omega
  generalize ((zb.drop pl).take k).length = m at *
  match m, hl with
  | 0, _ => decide
  | 1, _ => decide
  | 2, _ => decide
  | 3, _ => decide

set_option maxRecDepth 100000 in
set_option maxHeartbeats 4000000 in
theorem take_any (B g n c : Nat) (A : Option Addr) (zb : List Int) (pl : Nat) (width : Int) (w : World) (h : Rdr w B g A n c zb pl) (hr : ∀ x ∈ zb, 0 ≤ x ∧ x < 256) (hwf : (Lit.int .i64 width).wf = true) :
    Calls Tryd.prog 14 #[.pointer (some ⟨g, 0, none⟩), .int .i64 width] w fun e w' => (∃ ev, e = .returned (.tuple #[.int .i64 (takeS zb pl width).1, ev]) ∧ ErrIs w' ev (takeS zb pl width).2.1 (takeS zb pl width).2.2 ∧ Rdr w' B g A n c zb (takeAt zb pl width)) ∧ w.grownBy w' (some g) := by
  have HR := Lib.hid h
  have c0 := h.c0
  have c1 := h.c1
  have hle := h.le
  have hbig := h.big
  have HLen := Lib.hid h.len
  clear h
  rcases hok : okW width with _ | _
  · have HT := Lib.hid (takeS_bad (zb := zb) (pl := pl) hok)
    have HA : takeAt zb pl width = pl := by unfold takeAt; rw [HT.out]; rfl
    rw [HT.out, HA]
    have HK := Lib.hid hok
    clear hok
    go_enter Tryd.func14, Tryd.ntmps14
    go_wp2_with (go_at_call 19; refine (right_no _ _ HK.out).mono ?_; rintro e w' ⟨rfl, rfl⟩)
    go_ret2
    exact ⟨⟨_, rfl, .inr (.inl ⟨rfl, by decide, by decide, rfl⟩), HR.out⟩, World.grownBy.refl _ _⟩
  · obtain ⟨hw1, hw4⟩ := okW_iff.1 hok
    obtain ⟨W, rfl⟩ := Int.eq_ofNat_of_zero_le (show 0 ≤ width by omega)
    have hW1 : 1 ≤ W := by omega
    have hW4 : W ≤ 4 := by omega
    have HK := Lib.hid hok
    clear hok
    by_cases hs : n < pl + W
    · have HT := Lib.hid (takeS_short (zb := zb) (pl := pl) HK.out (by rw [HLen.out]; simpa using hs))
      have HA : takeAt zb pl W = pl := by unfold takeAt; rw [HT.out]; rfl
      rw [HT.out, HA, HLen.out]
      have hlt := HR.out.lt
      have hgt : ((n : Int) - pl < W) := by omega
      have hbA : Below w.heap.size w (w.alloc (.cells #[.int .i64 n, .iface 47 (.int .i64 3)] 51)) := (Below.refl _ _).alloc (Nat.le_refl _) _
      have HB := Lib.hid (HR.out.below hbA)
      go_enter Tryd.func14, Tryd.ntmps14
      go_wp2_with (go_at_call 19; refine (right_yes _ _ HK.out).mono ?_; rintro e w' ⟨rfl, rfl⟩)
      go_region
      go_wp2
      go_region
      go_wp2
      go_ret2
      exact ⟨⟨_, rfl, .inr (.inr ⟨w.heap.size, rfl, by decide, by decide, by simp, by simp⟩), HB.out.drew.drew⟩, gb_drew (gb_drew (gb_below hbA))⟩
    · have HT := Lib.hid (takeS_ok (zb := zb) (pl := pl) HK.out (by rw [HLen.out]; simpa using hs))
      have HA : takeAt zb pl W = pl + W := by unfold takeAt; rw [HT.out]; rfl
      rw [HT.out, HA]
      have hle2 : ¬ ((n : Int) - pl < W) := by omega
      go_enter Tryd.func14, Tryd.ntmps14
      go_wp2_with (go_at_call 19; refine (right_yes _ _ HK.out).mono ?_; rintro e w' ⟨rfl, rfl⟩)
      go_region
      go_wp2
      clear c0 c1 hle2
      go_loopw [6, 39] (fun nn i w1 => ∃ k : Nat, k ≤ W ∧ i = .int .i64 k ∧ nn = .int .i64 (num 0 ((zb.drop pl).take k)) ∧ Rdr w1 B g A n c zb (pl + k) ∧ w.grownBy w1 (some g)) (fun _ i _ => W - (intOf i).toNat)
      case atStart => exact ⟨0, by omega, rfl, rfl, HR.out.drew, by first | exact World.grownBy.refl _ _ | exact gb_drew (World.grownBy.refl _ _)⟩
      case round =>
        obtain ⟨k, hk, rfl, rfl, hR, hG⟩ := hrel
        by_cases hlt : k < W
        · have hlt' : (k : Int) < W := by omega
          have hst := num_step (zb := zb) (pl := pl) (k := k) (by rw [HLen.out]; omega)
          obtain ⟨hn1, hn2⟩ := num_small (zb := zb) (pl := pl) (k := k) hr (by omega)
          have hbyte : 0 ≤ zb.getD (pl + k) 0 ∧ zb.getD (pl + k) 0 < 256 := by
            have hlen : pl + k < zb.length := by rw [HLen.out]; omega
            rw [List.getD_eq_getElem?_getD, List.getElem?_eq_getElem hlen]
            exact hr _ (List.getElem_mem hlen)
          obtain ⟨hy1, hy2⟩ := hbyte
          obtain ⟨q, off, hA, hc⟩ := hR.rd
          obtain ⟨rfl, hq⟩ := hA (by rw [HLen.out]; omega)
          have cr := hc (pl + k) (by rw [HLen.out]; omega)
          have c0 := hR.c0
          have c1 := hR.c1
          have fz := hR.fz
          have HS := Lib.hid (hR.set (pl + k + 1) (by omega))
          have HST := Lib.hid hst
          have HG := Lib.hid (gb_set hG 1 (.int .i64 ((pl + k + 1 : Nat) : Int)))
          clear hst hA hc hR hG
          generalize num 0 ((zb.drop pl).take k) = N at *
          generalize zb.getD (pl + k) 0 = y at *
          have hor := bits_or_byte N y hn1 hn2 hy1 hy2
          go_wp2
          go_region
          go_wp2
          refine ⟨⟨k + 1, by omega, by simp, ?_, ?_, ?_⟩, ?_⟩
          · rw [HST.out]
          · have := HS.out.drew
            simpa [Nat.add_assoc, Int.add_assoc] using this
          · have := gb_drew HG.out
            simpa [Nat.add_assoc, Int.add_assoc] using this
          · simp [intOf]; omega
        · have hk' : k = W := by omega
          subst hk'
          have hge : ¬ (k : Int) < k := by omega
          go_wp2
          go_ret2
          exact ⟨⟨_, rfl, .inl ⟨rfl, rfl, rfl⟩, hR⟩, hG⟩
end Go.Proofs.YtdbiigcabfnpfaaDoor

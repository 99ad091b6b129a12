/-
  The walk of catchboltlaw07.LineOrder. No conditions.
-/
import Derived.Test.YtpbgdldaojpjkaaOrdF
import Derived.Deep.QuietTactic
import Derived.BigQuiet
import Derived.IntWalk
namespace Go.Proofs.Ytpbgdldaojpjkaa
open Go.ChangeShapes Go.WideShapes Go.ChangeAt Go.RowKit
set_option linter.unusedVariables false

set_option maxHeartbeats 1000000 in
theorem order_long (A : Option Addr) (n c : Nat) (w : World) (h : ¬ n ≤ 200) :
    Calls Try.prog 4 #[.slice A n c] w fun e w' => e = .returned (.bool true) ∧ Below w.heap.size w w' := by
  have h' : (200 : Int) < n := by omega
  clear h
  go_enter Try.func4, Try.ntmps4
  go_wp2_with fail
  refine (alive_true _).mono ?_
  rintro e w1 ⟨rfl, hb1⟩
  go_wp2
  go_ret
  exact ⟨rfl, hb1⟩

set_option maxRecDepth 100000 in
set_option maxHeartbeats 16000000 in
theorem order_true (A1 : Option Addr) (N c1 : Nat) (av : List Av) (w : World) (h : N ≤ 200) (hr : RdA w A1 av) (hl : av.length = N) :
    Calls Try.prog 4 #[.slice A1 N c1] w fun e w' => e = .returned (.bool true) ∧ Below w.heap.size w w' := by
  have h' : ¬ (200 : Int) < N := by omega
  have HR := Lib.hid hr
  have HLN := Lib.hid hl
  clear hr hl
  go_enter Try.func4, Try.ntmps4
  go_wp2_with fail
  refine (alive_true _).mono ?_
  rintro e w1 ⟨rfl, hb1⟩
  go_wp2_with fail
  refine (new_ok 64 w1 (by omega) (by omega)).mono ?_
  rintro e w2 ⟨rfl, hw2⟩
  have hX := new_line w1 64
  have hb2 : Below w1.heap.size w1 (w1.alloc (.cells #[.int .i64 64, .slice none 0 0, .slice none 0 0] 58)) := (Below.refl _ _).alloc (Nat.le_refl _) _
  rw [hw2] at hX hb2
  clear hw2
  have HB1 := Lib.hid hb1
  have HB2 := Lib.hid hb2
  have HX := Lib.hid hX
  have hs12 := hb2.size
  have hs01 := hb1.size
  clear hb1 hb2 hX
  go_wp2
  go_loopw [5] (fun i wr => ∃ (k : Nat) (l : Lot), k ≤ N ∧ i = .int .i64 k ∧ l.right ∧ Uniq l.all ∧ (l.n : Int) ≤ 64 ∧ LineX wr w1.heap.size w1.heap.size 64 l (fun _ => False) ∧ Below w1.heap.size w2 wr) (fun i _ => N - (intOf i).toNat)
  case atStart => exact ⟨0, ⟨[], []⟩, by omega, rfl, ⟨fun e h => by simp at h, fun e h => by simp at h⟩, fun i j _ hj => by simp [Lot.all] at hj, by simp [Lot.n], HX.out, Below.refl _ _⟩
  case round =>
    obtain ⟨kk, l, hkk, rfl, hri, huq, hln, hXr, hbr⟩ := hrel
    have hsr := hbr.size
    have HUQ := Lib.hid huq
    obtain ⟨wo, rfl⟩ : ∃ wo : World, wo = wr := ⟨_, rfl⟩
    have HXR := Lib.hid hXr
    have HBo := Lib.hid hbr
    clear huq hXr hbr
    by_cases hlt : kk < N
    · have hlt' : (kk : Int) < N := by omega
      have hkk0 : (0 : Int) ≤ kk := by omega
      obtain ⟨gx, ox, hAx, hcx⟩ := (HR.out.below HB1.out)
      obtain ⟨rfl, hgx⟩ := hAx (by rw [HLN.out]; omega)
      obtain ⟨hckd, hcx2⟩ := hcx kk (by rw [HLN.out]; exact hlt)
      have HW1o := Lib.hid (HB2.out.trans HBo.out)
      clear hAx hcx
      generalize av.getD kk Av.none = V at *
      obtain ⟨kd, ex, es, em, eu⟩ := V
      simp only at hckd hcx2
      go_wp2_with fail
      refine (all_x w1.heap.size w1.heap.size 64 l _ wo HXR.out (by omega)).mono ?_
      rintro e w3 ⟨⟨v3, rfl, hown3⟩, hb3⟩
      obtain ⟨A3, c3, rfl, hL3, hS3⟩ := listIs_of_own hown3
      have hs3 := hb3.size
      have HX3 := Lib.hid (HXR.out.more hb3 (SA A3) (fun q hq => .inr (hS3 q hq)))
      have HL3 := Lib.hid hL3
      have HB3 := Lib.hid (HBo.out.trans (hb3.mono (by omega)))
      have hbw : Below w1.heap.size w1 w3 := HB2.out.trans HB3.out
      have pk := (hbw.cell (p := ⟨gx, _, none⟩) hgx).trans hckd
      obtain ⟨p0, p1, p2, p3⟩ := hcx2.below hbw hgx
      clear hown3 hL3 hS3 hb3 hbw hckd hcx2
      go_wp2_with fail
      refine (act_any w1.heap.size w1.heap.size 64 l (SA A3) kd ex es em eu w3 HX3.out (by omega) (by omega)).mono ?_
      rintro e w5 ⟨rfl, hX5, hB5, hk5⟩
      obtain ⟨hord, hri8, huq8, hln8⟩ := act_ord l 64 kd ⟨ex, es, em, eu⟩ hri hln HUQ.out
      generalize actL l 64 kd ⟨ex, es, em, eu⟩ = L8 at *
      generalize actW l kd ⟨ex, es, em, eu⟩ = W8 at *
      generalize actE l 64 kd ⟨ex, es, em, eu⟩ = E8 at *
      have hs5 := hB5.size
      have HO := Lib.hid hord
      have HUQ8 := Lib.hid huq8
      have HX5 := Lib.hid hX5
      have HL5 := Lib.hid (HL3.out.kept hs5 hk5)
      have HB5 := Lib.hid (HB3.out.trans hB5)
      clear hord huq8 hX5 hk5 hB5 pk p0 p1 p2 p3
      go_wp2_with fail
      refine (all_x w1.heap.size w1.heap.size 64 L8 _ w5 HX5.out (by omega)).mono ?_
      rintro e w6 ⟨⟨v6, rfl, hown6⟩, hb6⟩
      obtain ⟨A6, c6, rfl, hL6, _⟩ := listIs_of_own hown6
      have hs6 := hb6.size
      have HX6 := Lib.hid (HX5.out.more hb6 (fun _ => False) (fun q hq => hq.elim))
      have HL6 := Lib.hid hL6
      have HW6 := Lib.hid (HL5.out.below hb6)
      have HB6 := Lib.hid (HB5.out.trans (hb6.mono (by omega)))
      have hn6 : L8.n ≤ 64 := by omega
      clear hown6 hL6 hb6
      go_wp2
      go_loopw [8, 9] (fun a i wr => ∃ (k : Nat) (at' : Int), k ≤ L8.n ∧ i = .int .i64 k ∧ a = .int .i64 at' ∧ (∀ q, k ≤ q → q < L8.all.length → findW l.all (L8.all.getD q Wt.none).x < l.all.length → at' ≤ findW l.all (L8.all.getD q Wt.none).x) ∧ Below w6.heap.size w6 wr) (fun _ i _ => L8.n - (intOf i).toNat)
      case atStart => exact ⟨0, 0, by omega, rfl, rfl, fun q _ _ _ => by omega, Below.refl _ _⟩
      case round =>
        obtain ⟨k, at', hk, rfl, rfl, hat, hbr⟩ := hrel
        have hsr := hbr.size
        have HAT := Lib.hid hat
        have HBR := Lib.hid hbr
        clear hat hbr
        by_cases hlt : k < L8.n
        · have hlt' : (k : Int) < L8.n := by omega
          have hk0 : (0 : Int) ≤ k := by omega
          obtain ⟨gv, ov, hAv, hcv⟩ := HL6.out.1.below HBR.out
          obtain ⟨rfl, hgv⟩ := hAv (by rw [Lot.all_length]; omega)
          obtain ⟨p0, p1, p2, p3⟩ := hcv k (by rw [Lot.all_length]; exact hlt)
          have HCV := Lib.hid hcv
          clear hAv hcv
          have hfind := rfind_any A3 l.n c3 l.all (L8.all.getD k Wt.none).x wr ((HW6.out.below HBR.out).1) (Lot.all_length l) (by omega)
          have HFI := Lib.hid hfind
          clear hfind
          have HEX := Lib.hid (rfl : L8.all.getD k Wt.none = L8.all.getD k Wt.none)
          generalize hE : L8.all.getD k Wt.none = E at *
          have HE := Lib.hid hE
          clear hE HEX
          obtain ⟨ex, es, em, eu⟩ := E
          simp only at p0 p1 p2 p3
          go_wp2_with fail
          refine (HFI.out).mono ?_
          rintro e w7 ⟨rfl, rfl⟩
          by_cases hf : findW l.all ex < l.all.length
          · have hF : findI l.all ex = (findW l.all ex : Int) := by unfold findI; rw [if_pos hf]
            rw [hF]
            have hge : at' ≤ findW l.all ex := by
              have := HAT.out k (Nat.le_refl _) (by rw [Lot.all_length]; exact hlt)
              rw [HE.out] at this
              exact this hf
            have HNX : Hid (∀ q, k + 1 ≤ q → q < L8.all.length → findW l.all (L8.all.getD q Wt.none).x < l.all.length → (findW l.all ex : Int) ≤ findW l.all (L8.all.getD q Wt.none).x) := Lib.hid fun q hq hql hqf => by
              have := HO.out.mono k q (by omega) hql (by rw [HE.out]; exact hf) hqf
              rw [HE.out] at this
              exact Int.ofNat_le.2 this
            have HF := Lib.hid hf
            clear hF hf
            generalize findW l.all ex = F at *
            have hF0 : (0 : Int) ≤ F := by omega
            have hF1 : ¬ (F : Int) < at' := by omega
            have hF2 : ¬ (F : Int) < 0 := by omega
            have hd : decide ((F : Int) < 0) = false := decide_eq_false hF2
            cases hu : eu
            · subst hu
              by_cases hk1 : k = 0
              · have hk2 : ¬ (0 : Int) < k := by omega
                clear hk1
                go_wp2_with fail
                go_quiet (fail)
                go_wp2_with fail
                refine ⟨⟨k + 1, _, by omega, by simp, rfl, HNX.out, below_drewN HBR.out _⟩, ?_⟩
                simp only [intOf]
                omega
              · have hk2 : (0 : Int) < k := by omega
                clear hk1
                go_wp2_with fail
                go_quiet (fail)
                go_wp2_with fail
                refine ⟨⟨k + 1, _, by omega, by simp, rfl, HNX.out, below_drewN HBR.out _⟩, ?_⟩
                simp only [intOf]
                omega
            · subst hu
              by_cases hk1 : k = 0
              · have hk2 : ¬ (0 : Int) < k := by omega
                clear hk1
                go_wp2_with fail
                go_quiet (fail)
                go_wp2_with fail
                refine ⟨⟨k + 1, _, by omega, by simp, rfl, HNX.out, below_drewN HBR.out _⟩, ?_⟩
                simp only [intOf]
                omega
              · have hk2 : (0 : Int) < k := by omega
                have hup := HO.out.up k (by omega) (by rw [Lot.all_length]; omega) (by rw [HE.out])
                obtain ⟨_, _, _, r3⟩ := HCV.out (k - 1) (by rw [Lot.all_length]; omega)
                rw [hup] at r3
                have hk4 : (0 : Int) ≤ (k : Int) - 1 := by omega
                have hk5 : (k : Int) - 1 < L8.n := by omega
                clear hup hk1
                go_wp2_with fail
                go_quiet (fail)
                go_wp2_with fail
                refine ⟨⟨k + 1, _, by omega, by simp, rfl, HNX.out, below_drewN HBR.out _⟩, ?_⟩
                simp only [intOf]
                omega
          · have hF : findI l.all ex = -1 := by unfold findI; rw [if_neg hf]
            rw [hF]
            have HNX : Hid (∀ q, k + 1 ≤ q → q < L8.all.length → findW l.all (L8.all.getD q Wt.none).x < l.all.length → at' ≤ findW l.all (L8.all.getD q Wt.none).x) := Lib.hid fun q hq hql hqf => HAT.out q (by omega) hql hqf
            have HF := Lib.hid hf
            clear hF hf
            have hw1 : IntKind.i64.wrap ((L8.n : Int) - 1) = (L8.n : Int) - 1 := IntWalk.i64_in _ (by omega)
            by_cases hmid : k + 1 < L8.n
            · have hd2 : decide ((k : Int) < (L8.n : Int) - 1) = true := decide_eq_true (by omega)
              have hlast := HO.out.last k (by rw [Lot.all_length]; exact hmid) (by rw [HE.out]; exact HF.out)
              rw [HE.out] at hlast
              obtain ⟨_, _, _, s3⟩ := HCV.out (k + 1) (by rw [Lot.all_length]; exact hmid)
              generalize (L8.all.getD (k + 1) Wt.none).u = ub at *
              have hub : ub = !eu := by
                revert hlast
                cases ub <;> cases eu <;> simp
              rw [hub] at s3
              clear hub hlast
              have hw2 : IntKind.i64.wrap ((k : Int) + 1) = (k : Int) + 1 := IntWalk.i64_in _ (by omega)
              have hw3 : ((k : Int) + 1).toNat = k + 1 := by omega
              have hw4 : (0 : Int) ≤ (k : Int) + 1 := by omega
              have hw5 : (k : Int) + 1 < L8.n := by omega
              cases hu : eu
              · subst hu
                by_cases hk1 : k = 0
                · have hk2 : ¬ (0 : Int) < k := by omega
                  clear hk1
                  go_wp2_with fail
                  go_quiet (fail)
                  go_wp2_with fail
                  refine ⟨⟨k + 1, _, by omega, by simp, rfl, HNX.out, below_drewN HBR.out _⟩, ?_⟩
                  simp only [intOf]
                  omega
                · have hk2 : (0 : Int) < k := by omega
                  clear hk1
                  go_wp2_with fail
                  go_quiet (fail)
                  go_wp2_with fail
                  refine ⟨⟨k + 1, _, by omega, by simp, rfl, HNX.out, below_drewN HBR.out _⟩, ?_⟩
                  simp only [intOf]
                  omega
              · subst hu
                by_cases hk1 : k = 0
                · have hk2 : ¬ (0 : Int) < k := by omega
                  clear hk1
                  go_wp2_with fail
                  go_quiet (fail)
                  go_wp2_with fail
                  refine ⟨⟨k + 1, _, by omega, by simp, rfl, HNX.out, below_drewN HBR.out _⟩, ?_⟩
                  simp only [intOf]
                  omega
                · have hk2 : (0 : Int) < k := by omega
                  have hup := HO.out.up k (by omega) (by rw [Lot.all_length]; omega) (by rw [HE.out])
                  obtain ⟨_, _, _, r3⟩ := HCV.out (k - 1) (by rw [Lot.all_length]; omega)
                  rw [hup] at r3
                  have hk4 : (0 : Int) ≤ (k : Int) - 1 := by omega
                  have hk5 : (k : Int) - 1 < L8.n := by omega
                  clear hup hk1
                  go_wp2_with fail
                  go_quiet (fail)
                  go_wp2_with fail
                  refine ⟨⟨k + 1, _, by omega, by simp, rfl, HNX.out, below_drewN HBR.out _⟩, ?_⟩
                  simp only [intOf]
                  omega
            · have hd2 : decide ((k : Int) < (L8.n : Int) - 1) = false := decide_eq_false (by omega)
              cases hu : eu
              · subst hu
                by_cases hk1 : k = 0
                · have hk2 : ¬ (0 : Int) < k := by omega
                  clear hk1
                  go_wp2_with fail
                  go_quiet (fail)
                  go_wp2_with fail
                  refine ⟨⟨k + 1, _, by omega, by simp, rfl, HNX.out, below_drewN HBR.out _⟩, ?_⟩
                  simp only [intOf]
                  omega
                · have hk2 : (0 : Int) < k := by omega
                  clear hk1
                  go_wp2_with fail
                  go_quiet (fail)
                  go_wp2_with fail
                  refine ⟨⟨k + 1, _, by omega, by simp, rfl, HNX.out, below_drewN HBR.out _⟩, ?_⟩
                  simp only [intOf]
                  omega
              · subst hu
                by_cases hk1 : k = 0
                · have hk2 : ¬ (0 : Int) < k := by omega
                  clear hk1
                  go_wp2_with fail
                  go_quiet (fail)
                  go_wp2_with fail
                  refine ⟨⟨k + 1, _, by omega, by simp, rfl, HNX.out, below_drewN HBR.out _⟩, ?_⟩
                  simp only [intOf]
                  omega
                · have hk2 : (0 : Int) < k := by omega
                  have hup := HO.out.up k (by omega) (by rw [Lot.all_length]; omega) (by rw [HE.out])
                  obtain ⟨_, _, _, r3⟩ := HCV.out (k - 1) (by rw [Lot.all_length]; omega)
                  rw [hup] at r3
                  have hk4 : (0 : Int) ≤ (k : Int) - 1 := by omega
                  have hk5 : (k : Int) - 1 < L8.n := by omega
                  clear hup hk1
                  go_wp2_with fail
                  go_quiet (fail)
                  go_wp2_with fail
                  refine ⟨⟨k + 1, _, by omega, by simp, rfl, HNX.out, below_drewN HBR.out _⟩, ?_⟩
                  simp only [intOf]
                  omega
        · have hge : ¬ (k : Int) < L8.n := by omega
          have HBF := Lib.hid (HB6.out.trans (HBR.out.mono (by omega)))
          have HXF := Lib.hid (HX6.out.below HBR.out)
          go_wp2_with fail
          refine ⟨⟨kk + 1, L8, by omega, by simp, hri8, HUQ8.out, hln8, HXF.out, HBF.out⟩, ?_⟩
          simp only [intOf]
          omega
    · have hge : ¬ (kk : Int) < N := by omega
      go_wp2_with fail
      go_ret
      exact ⟨rfl, HB1.out.trans ((HB2.out.trans HBo.out).mono hs01)⟩
end Go.Proofs.Ytpbgdldaojpjkaa

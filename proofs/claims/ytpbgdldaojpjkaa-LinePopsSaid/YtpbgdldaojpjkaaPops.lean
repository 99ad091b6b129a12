/-
  The walk of catchboltlaw07.LinePops. No conditions.
-/
import Derived.Test.YtpbgdldaojpjkaaOrdF
import Derived.Deep.QuietTactic
import Derived.BigQuiet
import Derived.IntWalk
namespace Go.Proofs.Ytpbgdldaojpjkaa
open Go.ChangeShapes Go.WideShapes Go.ChangeAt Go.RowKit
set_option linter.unusedVariables false

set_option maxHeartbeats 1000000 in
theorem pops_long (m : Int) (A : Option Addr) (n c : Nat) (w : World) (h : ¬ n ≤ 100) :
    Calls Try.prog 6 #[.int .u8 m, .slice A n c] w fun e w' => e = .returned (.bool true) ∧ Below w.heap.size w w' := by
  have h' : (100 : Int) < n := by omega
  clear h
  go_enter Try.func6, Try.ntmps6
  go_wp2_with fail
  refine (alive_true _).mono ?_
  rintro e w1 ⟨rfl, hb1⟩
  go_wp2
  go_ret
  exact ⟨rfl, hb1⟩

theorem pushE_7 (l : Lot) (lim : Int) (e : Wt) : pushE l lim e = 7 ↔ e.ok = true ∧ l.has e.x = false ∧ (l.n : Int) = lim := by
  unfold pushE
  cases e.ok <;> cases l.has e.x <;> simp
theorem leaveE_7 (l : Lot) (t : Int) : ¬ leaveE l t = 7 := by unfold leaveE; split <;> omega

theorem getD_drop (v : List Wt) (k i : Nat) : (v.drop k).getD i Wt.none = v.getD (k + i) Wt.none := by
  simp [List.getD_eq_getElem?_getD]
theorem uniq_drop {v : List Wt} (h : Uniq v) (k : Nat) : Uniq (v.drop k) := fun i j hij hj => by
  rw [getD_drop, getD_drop]
  exact h _ _ (by omega) (by simp at hj; omega)
theorem ahead_last {l l' : Lot} {k : Nat} (hq : Uniq l.all) (hd : l'.all = l.all.drop k) (hk : k < l.n) : aheadN l' (l.all.getD (l.n - 1) Wt.none).x = l.n - 1 - k := by
  have hl := Lot.all_length l
  have hl' : l'.n = l.n - k := by rw [← Lot.all_length, hd, List.length_drop, hl]
  have hf := find_uniq (uniq_drop hq k) (l.n - 1 - k) (by rw [List.length_drop, hl]; omega)
  rw [getD_drop, show k + (l.n - 1 - k) = l.n - 1 from by omega] at hf
  unfold aheadN
  rw [hd, hf, if_pos (by omega)]
theorem pop_step {l l' : Lot} {k : Nat} (hr : l'.right) (hq : Uniq l.all) (hd : l'.all = l.all.drop k) (hk : k < l.n) :
    leaveW l' (popT l') = l.all.getD k Wt.none ∧ leaveE l' (popT l') = 0 ∧ (leaveL l' (popT l')).right ∧ (leaveL l' (popT l')).all = l.all.drop (k + 1) := by
  have hl := Lot.all_length l
  have h0 : 0 < l'.all.length := by rw [hd, List.length_drop, hl]; omega
  have hu : Uniq l'.all := by rw [hd]; exact uniq_drop hq k
  have hf : findW l'.all (popT l') = 0 := find_uniq hu 0 h0
  have hh : l'.has (popT l') = true := decide_eq_true (by rw [hf]; exact h0)
  obtain ⟨h1, h2, _⟩ := leave_doc l' (popT l') hr
  refine ⟨?_, by unfold leaveE; rw [if_pos hh], h2, ?_⟩
  · unfold leaveW; rw [if_pos hh, hf, hd, getD_drop, Nat.add_zero]
  · rw [← h1]; unfold dLeave; rw [hf, if_pos h0, hd]
    simp [List.eraseIdx_zero]

set_option maxRecDepth 100000 in
set_option maxHeartbeats 16000000 in
theorem pops_true (m : Int) (A1 : Option Addr) (N c1 : Nat) (av : List Av) (w : World) (h : N ≤ 100) (m0 : 0 ≤ m) (m1 : m ≤ 255) (hr : RdA w A1 av) (hl : av.length = N) :
    Calls Try.prog 6 #[.int .u8 m, .slice A1 N c1] w fun e w' => e = .returned (.bool true) ∧ Below w.heap.size w w' := by
  have h' : ¬ (100 : Int) < N := by omega
  have HR := Lib.hid hr
  have HLN := Lib.hid hl
  clear hr hl
  go_enter Try.func6, Try.ntmps6
  go_wp2_with fail
  refine (alive_true _).mono ?_
  rintro e w1 ⟨rfl, hb1⟩
  go_wp2_with fail
  have hlim1 : 1 ≤ 1 + m % 64 := by omega
  have hlim2 : 1 + m % 64 ≤ 64 := by omega
  generalize 1 + m % 64 = lim at *
  refine (new_ok lim w1 hlim1 hlim2).mono ?_
  rintro e w2 ⟨rfl, hw2⟩
  have hX := new_line w1 lim
  have hb2 : Below w1.heap.size w1 (w1.alloc (.cells #[.int .i64 lim, .slice none 0 0, .slice none 0 0] 58)) := (Below.refl _ _).alloc (Nat.le_refl _) _
  rw [hw2] at hX hb2
  clear hw2
  have HB1 := Lib.hid hb1
  have HB2 := Lib.hid hb2
  have HX := Lib.hid hX
  have hs12 := hb2.size
  have hs01 := hb1.size
  clear hb1 hb2 hX
  go_wp2
  go_loopw [8] (fun i wr => ∃ (k : Nat) (l : Lot), k ≤ N ∧ i = .int .i64 k ∧ l.right ∧ Uniq l.all ∧ (l.n : Int) ≤ lim ∧ LineX wr w1.heap.size w1.heap.size lim l (fun _ => False) ∧ Below w1.heap.size w2 wr) (fun i _ => N - (intOf i).toNat)
  case atStart => exact ⟨0, ⟨[], []⟩, by omega, rfl, ⟨fun e h => by simp at h, fun e h => by simp at h⟩, fun i j _ hj => by simp [Lot.all] at hj, by simp [Lot.n]; omega, HX.out, Below.refl _ _⟩
  case round =>
    obtain ⟨kk, l, hkk, rfl, hri, huq, hln, hXr, hbr⟩ := hrel
    have hsr := hbr.size
    have HUQ := Lib.hid huq
    obtain ⟨wo, rfl⟩ : ∃ wo : World, wo = wr := ⟨_, rfl⟩
    have HXR := Lib.hid hXr
    have HBo := Lib.hid hbr
    clear huq hXr hbr
    by_cases hlt : kk < N
    · have hlt' : (kk : Int) < N := by omega
      have hkk0 : (0 : Int) ≤ kk := by omega
      obtain ⟨gx, ox, hAx, hcx⟩ := (HR.out.below HB1.out)
      obtain ⟨rfl, hgx⟩ := hAx (by rw [HLN.out]; omega)
      obtain ⟨hckd, hcx2⟩ := hcx kk (by rw [HLN.out]; exact hlt)
      have HW1o := Lib.hid (HB2.out.trans HBo.out)
      clear hAx hcx
      generalize av.getD kk Av.none = V at *
      obtain ⟨kd, ex, es, em, eu⟩ := V
      simp only at hckd hcx2
      go_wp2_with fail
      refine (all_x w1.heap.size w1.heap.size lim l _ wo HXR.out (by omega)).mono ?_
      rintro e w3 ⟨⟨v3, rfl, hown3⟩, hb3⟩
      obtain ⟨A3, c3, rfl, hL3, hS3⟩ := listIs_of_own hown3
      have hs3 := hb3.size
      have HX3 := Lib.hid (HXR.out.more hb3 (SA A3) (fun q hq => .inr (hS3 q hq)))
      have HL3 := Lib.hid hL3
      have HB3 := Lib.hid (HBo.out.trans (hb3.mono (by omega)))
      have hbw : Below w1.heap.size w1 w3 := HB2.out.trans HB3.out
      have pk := (hbw.cell (p := ⟨gx, _, none⟩) hgx).trans hckd
      obtain ⟨p0, p1, p2, p3⟩ := hcx2.below hbw hgx
      clear hown3 hL3 hS3 hb3 hbw
      go_wp2_with fail
      refine (act_any w1.heap.size w1.heap.size lim l (SA A3) kd ex es em eu w3 HX3.out (by omega) (by omega)).mono ?_
      rintro e w5 ⟨rfl, hX5, hB5, hk5⟩
      obtain ⟨_, hri8, huq8, hln8⟩ := act_ord l lim kd ⟨ex, es, em, eu⟩ hri hln HUQ.out
      have hE7 : actE l lim kd ⟨ex, es, em, eu⟩ = 7 ↔ kd = 0 ∧ (⟨ex, es, em, eu⟩ : Wt).ok = true ∧ l.has ex = false ∧ (l.n : Int) = lim := by
        unfold actE
        by_cases k0 : kd = 0
        · rw [if_pos k0, pushE_7]; simp [k0]
        · rw [if_neg k0]
          have h1 := leaveE_7 l (popT l)
          have h2 := leaveE_7 l ex
          by_cases k1 : kd = 1
          · rw [if_pos k1]; simp [h1, k0]
          · rw [if_neg k1]
            by_cases k2 : kd = 2
            · rw [if_pos k2]; simp [h2, k0]
            · rw [if_neg k2]; simp [k0]
      generalize actL l lim kd ⟨ex, es, em, eu⟩ = L8 at *
      generalize actW l kd ⟨ex, es, em, eu⟩ = W8 at *
      generalize actE l lim kd ⟨ex, es, em, eu⟩ = E8 at *
      have HE7 := Lib.hid hE7
      have hs5 := hB5.size
      have HUQ8 := Lib.hid huq8
      have HX5 := Lib.hid hX5
      have HL5 := Lib.hid (HL3.out.kept hs5 hk5)
      have HB5 := Lib.hid (HB3.out.trans hB5)
      obtain ⟨yx, ys, ym, yu⟩ := W8
      rw [show (⟨yx, ys, ym, yu⟩ : Wt).val = .agg #[.int .i64 yx, .int .i64 ys, .int .i64 ym, .bool yu] from rfl]
      have hb6 : Below w5.heap.size w5 (w5.alloc (.cells #[.int .i64 yx, .int .i64 ys, .int .i64 ym, .bool yu] 33)) := (Below.refl _ _).alloc (Nat.le_refl _) _
      have HX6 := Lib.hid (hX5.below hb6)
      have HL6 := Lib.hid (HL5.out.below hb6)
      have HB6 := Lib.hid (HB5.out.trans (hb6.mono (by omega)))
      have hs6 := hb6.size
      have hbw : Below w1.heap.size w1 (w5.alloc (.cells #[.int .i64 yx, .int .i64 ys, .int .i64 ym, .bool yu] 33)) := HB2.out.trans HB6.out
      have qk := (hbw.cell (p := ⟨gx, _, none⟩) hgx).trans hckd
      obtain ⟨q0, q1, q2, q3⟩ := hcx2.below hbw hgx
      clear huq8 hX5 hk5 hB5 pk p0 p1 p2 p3 hb6 hbw hE7
      by_cases k0 : kd = 0
      · subst k0
        go_wp2_with fail
        generalize w5.alloc (.cells #[.int .i64 yx, .int .i64 ys, .int .i64 ym, .bool yu] 33) = w6 at *
        refine (rmay_any ex es em eu w6).mono ?_
        rintro e w7 ⟨rfl, hb7⟩
        have hs7 := hb7.size
        have HX7 := Lib.hid (HX6.out.below hb7)
        have HL7 := Lib.hid (HL6.out.below hb7)
        have HB7 := Lib.hid (HB6.out.trans (hb7.mono (by omega)))
        have r0 := (hb7.cell (p := ⟨gx, _, none⟩) (show gx < w6.heap.size by omega)).trans q0
        clear hb7 qk q0 q1 q2 q3
        rcases hok : (⟨ex, es, em, eu⟩ : Wt).ok with _ | _
        · have hE : (E8 == 7) = false := by
            have := HE7.out; rw [hok] at this; simpa using this
          have HOK := Lib.hid hok
          clear hok
          go_wp2_with fail
          refine (all_x w1.heap.size w1.heap.size lim L8 _ _ (HX7.out.below (by go_grown)) (by omega)).mono ?_
          rintro e w8 ⟨⟨v8, rfl, hown8⟩, hb8⟩
          obtain ⟨_, A8, c8, rfl, _, _⟩ := rdw_of_own hown8
          have hs8 := hb8.size
          have HB8 := Lib.hid (HB7.out.trans (Below.mono (Below.trans (show Below w7.heap.size w7 _ by go_grown) (hb8.mono (by first | omega | (simp; done) | (simp; omega)))) (by omega)))
          have HX8 := Lib.hid ((HX7.out.below (show Below w7.heap.size w7 _ by go_grown)).more hb8 (fun _ => False) (fun q hq => hq.elim))
          clear hown8 hb8
          go_wp2_with fail
          refine ⟨⟨kk + 1, L8, by omega, by simp, hri8, HUQ8.out, hln8, HX8.out, HB8.out⟩, ?_⟩
          simp only [intOf]
          omega
        · have HOK := Lib.hid hok
          clear hok
          go_wp2_with fail
          refine (rfind_any A3 l.n c3 l.all ex w7 HL7.out.1 (Lot.all_length l) (by omega)).mono ?_
          rintro e w8 ⟨rfl, rfl⟩
          by_cases hf : findW l.all ex < l.all.length
          · have hF : findI l.all ex = (findW l.all ex : Int) := by unfold findI; rw [if_pos hf]
            rw [hF]
            have hh : l.has ex = true := decide_eq_true hf
            have hE : (E8 == 7) = false := by
              have := HE7.out; rw [hh] at this; simpa using this
            generalize findW l.all ex = F at *
            have hF2 : ¬ (F : Int) < 0 := by omega
            clear hF hh hf
            go_wp2_with fail
            refine (all_x w1.heap.size w1.heap.size lim L8 _ _ (HX7.out.below (by go_grown)) (by omega)).mono ?_
            rintro e w8 ⟨⟨v8, rfl, hown8⟩, hb8⟩
            obtain ⟨_, A8, c8, rfl, _, _⟩ := rdw_of_own hown8
            have hs8 := hb8.size
            have HB8 := Lib.hid (HB7.out.trans (Below.mono (Below.trans (show Below w7.heap.size w7 _ by go_grown) (hb8.mono (by first | omega | (simp; done) | (simp; omega)))) (by omega)))
            have HX8 := Lib.hid ((HX7.out.below (show Below w7.heap.size w7 _ by go_grown)).more hb8 (fun _ => False) (fun q hq => hq.elim))
            clear hown8 hb8
            go_wp2_with fail
            refine ⟨⟨kk + 1, L8, by omega, by simp, hri8, HUQ8.out, hln8, HX8.out, HB8.out⟩, ?_⟩
            simp only [intOf]
            omega
          · have hF : findI l.all ex = -1 := by unfold findI; rw [if_neg hf]
            rw [hF]
            have hh : l.has ex = false := decide_eq_false hf
            by_cases hn : (l.n : Int) = lim
            · have hE : E8 = 7 := HE7.out.2 ⟨by first | rfl | trivial, HOK.out, hh, hn⟩
              subst hE
              have hq : ((l.n : Int) == lim) = true := by simp [hn]
              clear hF hh hf hn
              go_wp2_with fail
              refine (all_x w1.heap.size w1.heap.size lim L8 _ _ (HX7.out.below (by go_grown)) (by omega)).mono ?_
              rintro e w8 ⟨⟨v8, rfl, hown8⟩, hb8⟩
              obtain ⟨_, A8, c8, rfl, _, _⟩ := rdw_of_own hown8
              have hs8 := hb8.size
              have HB8 := Lib.hid (HB7.out.trans (Below.mono (Below.trans (show Below w7.heap.size w7 _ by go_grown) (hb8.mono (by first | omega | (simp; done) | (simp; omega)))) (by omega)))
              have HX8 := Lib.hid ((HX7.out.below (show Below w7.heap.size w7 _ by go_grown)).more hb8 (fun _ => False) (fun q hq => hq.elim))
              clear hown8 hb8
              go_wp2_with fail
              refine ⟨⟨kk + 1, L8, by omega, by simp, hri8, HUQ8.out, hln8, HX8.out, HB8.out⟩, ?_⟩
              simp only [intOf]
              omega
            · have hE : (E8 == 7) = false := by
                have := HE7.out; simp [hn] at this; simpa using this
              have hq : ((l.n : Int) == lim) = false := by simp [hn]
              clear hF hh hf hn
              go_wp2_with fail
              refine (all_x w1.heap.size w1.heap.size lim L8 _ _ (HX7.out.below (by go_grown)) (by omega)).mono ?_
              rintro e w8 ⟨⟨v8, rfl, hown8⟩, hb8⟩
              obtain ⟨_, A8, c8, rfl, _, _⟩ := rdw_of_own hown8
              have hs8 := hb8.size
              have HB8 := Lib.hid (HB7.out.trans (Below.mono (Below.trans (show Below w7.heap.size w7 _ by go_grown) (hb8.mono (by first | omega | (simp; done) | (simp; omega)))) (by omega)))
              have HX8 := Lib.hid ((HX7.out.below (show Below w7.heap.size w7 _ by go_grown)).more hb8 (fun _ => False) (fun q hq => hq.elim))
              clear hown8 hb8
              go_wp2_with fail
              refine ⟨⟨kk + 1, L8, by omega, by simp, hri8, HUQ8.out, hln8, HX8.out, HB8.out⟩, ?_⟩
              simp only [intOf]
              omega
      · have hb0 : (kd == 0) = false := by simp [k0]
        have hE : (E8 == 7) = false := by
          have := HE7.out; simp [k0] at this; simpa using this
        have HK0 := Lib.hid k0
        clear k0
        go_wp2_with fail
        generalize w5.alloc (.cells #[.int .i64 yx, .int .i64 ys, .int .i64 ym, .bool yu] 33) = w7 at *
        have HX7 := HX6
        have HL7 := HL6
        have HB7 := HB6
        refine (all_x w1.heap.size w1.heap.size lim L8 _ _ (HX7.out.below (by go_grown)) (by omega)).mono ?_
        rintro e w8 ⟨⟨v8, rfl, hown8⟩, hb8⟩
        obtain ⟨_, A8, c8, rfl, _, _⟩ := rdw_of_own hown8
        have hs8 := hb8.size
        have HB8 := Lib.hid (HB7.out.trans (Below.mono (Below.trans (show Below w7.heap.size w7 _ by go_grown) (hb8.mono (by first | omega | (simp; done) | (simp; omega)))) (by omega)))
        have HX8 := Lib.hid ((HX7.out.below (show Below w7.heap.size w7 _ by go_grown)).more hb8 (fun _ => False) (fun q hq => hq.elim))
        clear hown8 hb8
        go_wp2_with fail
        refine ⟨⟨kk + 1, L8, by omega, by simp, hri8, HUQ8.out, hln8, HX8.out, HB8.out⟩, ?_⟩
        simp only [intOf]
        omega
    · have hge : ¬ (kk : Int) < N := by omega
      go_wp2_with fail
      refine (all_x w1.heap.size w1.heap.size lim l _ wo HXR.out (by omega)).mono ?_
      rintro e w3 ⟨⟨v3, rfl, hown3⟩, hb3⟩
      obtain ⟨A3, c3, rfl, hL3, hS3⟩ := listIs_of_own hown3
      have hs3 := hb3.size
      have HX3 := Lib.hid (HXR.out.more hb3 (SA A3) (fun q hq => .inr (hS3 q hq)))
      have HL3 := Lib.hid hL3
      have HB3 := Lib.hid (HB1.out.trans ((HB2.out.trans (HBo.out.trans (hb3.mono (by omega)))).mono hs01))
      clear hown3 hL3 hS3 hb3
      go_wp2_with fail
      go_loopw [14] (fun i wr => ∃ (k : Nat) (l' : Lot), k ≤ l.n ∧ i = .int .i64 k ∧ l'.right ∧ l'.all = l.all.drop k ∧ LineX wr w1.heap.size w1.heap.size lim l' (SA A3) ∧ ListIs wr A3 l.n c3 l.all ∧ Below w1.heap.size w3 wr) (fun i _ => l.n - (intOf i).toNat)
      case atStart => exact ⟨0, l, by omega, rfl, hri, rfl, HX3.out, HL3.out, Below.refl _ _⟩
      case round =>
        obtain ⟨k, l', hk, rfl, hri', hd, hXr, hLr, hbr⟩ := hrel
        have hsr := hbr.size
        have hn' : l'.n = l.n - k := by rw [← Lot.all_length, hd, List.length_drop, Lot.all_length]
        have hn9 : l'.n ≤ 64 := by omega
        have HN := Lib.hid hn'
        have HD := Lib.hid hd
        have HXR := Lib.hid hXr
        have HLR := Lib.hid hLr
        have HBR := Lib.hid hbr
        clear hn' hd hXr hLr hbr
        by_cases hlt : k < l.n
        · have hlt' : (k : Int) < l.n := by omega
          have hk0 : (0 : Int) ≤ k := by omega
          obtain ⟨g1, g2, g3, g4⟩ := pop_step hri' HUQ.out HD.out hlt
          obtain ⟨gv, ov, hAv, hcv⟩ := HLR.out.1
          obtain ⟨rfl, hgv⟩ := hAv (by rw [Lot.all_length]; omega)
          obtain ⟨t0, _⟩ := hcv (l.n - 1) (by rw [Lot.all_length]; omega)
          obtain ⟨p0, p1, p2, p3⟩ := hcv k (by rw [Lot.all_length]; exact hlt)
          have ha := ahead_last HUQ.out HD.out hlt
          generalize (l.all.getD (l.n - 1) Wt.none).x = T at *
          have hahead := ahead_any w1.heap.size w1.heap.size lim l' (SA (some ⟨gv, ov, none⟩)) T wr HXR.out (by omega)
          rw [ha] at hahead
          have HAH := Lib.hid hahead
          have hpop := fun W (hXW : LineX W w1.heap.size w1.heap.size lim l' (SA (some ⟨gv, ov, none⟩))) (hW : w1.heap.size ≤ W.heap.size) => pop_any w1.heap.size w1.heap.size lim l' (SA (some ⟨gv, ov, none⟩)) W hXW hW (by omega)
          unfold LeaveOf at hpop
          rw [g1, g2] at hpop
          have HG4 := Lib.hid g4
          generalize leaveL l' (popT l') = L9 at *
          generalize l.all.getD k Wt.none = E at *
          obtain ⟨ex, es, em, eu⟩ := E
          rw [show (⟨ex, es, em, eu⟩ : Wt).val = .agg #[.int .i64 ex, .int .i64 es, .int .i64 em, .bool eu] from rfl, show errV 0 = .nilIface from rfl] at hpop
          simp only at p0 p1 p2 p3
          have HPO := Lib.hid hpop
          clear hahead hpop g1 g2 g4 hAv hcv ha
          have hl0 : (0 : Int) ≤ (l.n : Int) - 1 := by omega
          have hl1 : (l.n : Int) - 1 < l.n := by omega
          go_wp2_with fail
          refine (HAH.out).mono ?_
          rintro e w6 ⟨⟨A6, n6, c6, rfl, hn6, _, _⟩, hb6⟩
          have hs6 := hb6.size
          have hq6 : ((n6 : Int) == (l.n : Int) - 1 - k) = true := by simp; omega
          have HX6 := Lib.hid (HXR.out.more hb6 (SA (some ⟨gv, ov, none⟩)) (fun q hq => .inl hq))
          have HL6 := Lib.hid (HLR.out.below hb6)
          have HB6 := Lib.hid (HBR.out.trans (hb6.mono (by omega)))
          have p0 := (hb6.cell (p := ⟨gv, _, none⟩) hgv).trans p0
          have p1 := (hb6.cell (p := ⟨gv, _, none⟩) hgv).trans p1
          have p2 := (hb6.cell (p := ⟨gv, _, none⟩) hgv).trans p2
          have p3 := (hb6.cell (p := ⟨gv, _, none⟩) hgv).trans p3
          clear hn6 hb6 t0
          go_wp2_with fail
          refine (HPO.out w6 HX6.out (by omega)).mono ?_
          rintro e w7 ⟨rfl, hX7, hB7, hk7⟩
          have hs7 := hB7.size
          have HL7 := Lib.hid (HL6.out.kept hs7 hk7)
          have hb8 : Below w7.heap.size w7 (w7.alloc (.cells #[.int .i64 ex, .int .i64 es, .int .i64 em, .bool eu] 33)) := (Below.refl _ _).alloc (Nat.le_refl _) _
          have HX8 := Lib.hid (hX7.more hb8 (SA (some ⟨gv, ov, none⟩)) (fun q hq => .inl hq))
          have HL8 := Lib.hid (HL7.out.below hb8)
          have HB8 := Lib.hid (HB6.out.trans (hB7.trans (hb8.mono (by omega))))
          have y0 : (w7.alloc (.cells #[.int .i64 ex, .int .i64 es, .int .i64 em, .bool eu] 33)).cell? ⟨w7.heap.size, 0, none⟩ = some (.int .i64 ex) := by simp
          have y1 : (w7.alloc (.cells #[.int .i64 ex, .int .i64 es, .int .i64 em, .bool eu] 33)).cell? ⟨w7.heap.size, 1, none⟩ = some (.int .i64 es) := by simp
          have y2 : (w7.alloc (.cells #[.int .i64 ex, .int .i64 es, .int .i64 em, .bool eu] 33)).cell? ⟨w7.heap.size, 2, none⟩ = some (.int .i64 em) := by simp
          have y3 : (w7.alloc (.cells #[.int .i64 ex, .int .i64 es, .int .i64 em, .bool eu] 33)).cell? ⟨w7.heap.size, 3, none⟩ = some (.bool eu) := by simp
          have hg7 := hk7 gv ⟨ov, rfl⟩
          have hgv7 : gv < w7.heap.size := by omega
          have v0 := (hb8.cell (p := ⟨gv, _, none⟩) hgv7).trans ((World.cell?_of_block (a := ⟨gv, _, none⟩) hg7).trans p0)
          have v1 := (hb8.cell (p := ⟨gv, _, none⟩) hgv7).trans ((World.cell?_of_block (a := ⟨gv, _, none⟩) hg7).trans p1)
          have v2 := (hb8.cell (p := ⟨gv, _, none⟩) hgv7).trans ((World.cell?_of_block (a := ⟨gv, _, none⟩) hg7).trans p2)
          have v3 := (hb8.cell (p := ⟨gv, _, none⟩) hgv7).trans ((World.cell?_of_block (a := ⟨gv, _, none⟩) hg7).trans p3)
          clear hX7 hB7 hk7 hb8 hg7 p0 p1 p2 p3
          go_wp2_with fail
          generalize w7.alloc (.cells #[.int .i64 ex, .int .i64 es, .int .i64 em, .bool eu] 33) = w8 at *
          go_quiet (fail)
          go_wp2_with fail
          refine ⟨⟨k + 1, L9, by omega, by simp, g3, HG4.out, HX8.out.below (below_drewN (Below.refl _ _) _), HL8.out.below (below_drewN (Below.refl _ _) _), below_drewN HB8.out _⟩, ?_⟩
          simp only [intOf]
          omega
        · have hge : ¬ (k : Int) < l.n := by omega
          have hz : l'.n = 0 := by have := HN.out; omega
          go_wp2_with fail
          refine (all_x w1.heap.size w1.heap.size lim l' _ wr HXR.out (by omega)).mono ?_
          rintro e w6 ⟨⟨v6, rfl, hown6⟩, hb6⟩
          rw [hz] at hown6
          obtain ⟨_, A6, c6, rfl, _, _⟩ := rdw_of_own hown6
          have HB6 := Lib.hid (HB3.out.trans ((HBR.out.trans (hb6.mono (by omega))).mono hs01))
          clear hown6 hb6 hz
          go_wp2_with fail
          go_ret
          exact ⟨rfl, HB6.out⟩
end Go.Proofs.Ytpbgdldaojpjkaa

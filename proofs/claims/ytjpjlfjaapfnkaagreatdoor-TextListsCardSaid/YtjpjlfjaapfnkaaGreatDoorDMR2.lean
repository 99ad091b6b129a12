/-
  TextLists. No conditions beyond those that each theorem states.
-/
import Derived.Test.YtjpjlfjaapfnkaaGreatDoorDMQ2
import Derived.Test.YtjpjlfjaapfnkaaGreatDoorDMX
set_option linter.unusedVariables false
set_option linter.unusedSimpArgs false
namespace Go.Proofs.YtjpjlfjaapfnkaaGreatDoor
open Go.ChangeShapes Go.WideShapes Go.ChangeAt Go.RowKit
open C20 (Ev formB evC)
theorem take_evN {l : List Ev} {k : Nat} (h : k < l.length) : l.take (k + 1) = l.take k ++ [l.getD k C20.Ev.none] := by
 rw [List.take_succ_eq_append_getElem h, List.getD_eq_getElem?_getD, List.getElem?_eq_getElem h]
 rfl
theorem bsA_app (a b : List UInt8) : bsA a ++ bsA b = bsA (a ++ b) := by
 have h : (bsA a ++ bsA b).data = (bsA (a ++ b)).data := by simp [bsA]
 exact ByteArray.ext h
theorem bsA_ln (a b : List UInt8) : bsA a ++ bsA b ++ ⟨#[10]⟩ = bsA (a ++ (b ++ [10])) := by
 rw [show (⟨#[10]⟩ : ByteArray) = bsA [10] from rfl, bsA_app, bsA_app, List.append_assoc]
theorem evLn_snoc (es : List Ev) (e : Ev) : evLn (es ++ [e]) = evLn es ++ (evS e ++ [10]) := by unfold evLn; simp
theorem enLn_snoc (es : List Ent) (e : Ent) : enLn (es ++ [e]) = enLn es ++ (entS e ++ [10]) := by unfold enLn; simp
def StE (es : List Ev) (k : Nat) (c a : Int) : Prop :=
 (c = 0 ∧ a = -1 ∧ ∀ j, j < k → evOk (es.getD j C20.Ev.none) = true) ∨
 ∃ i, k = i + 1 ∧ a = (i : Int) ∧ c = evE (es.getD i C20.Ev.none) ∧ evOk (es.getD i C20.Ev.none) = false ∧ ∀ j, j < i → evOk (es.getD j C20.Ev.none) = true
def StN (es : List Ent) (k : Nat) (a : Int) : Prop :=
 (a = -1 ∧ ∀ j, j < k → (es.getD j Ent.none).may = true) ∨
 ∃ i, i < k ∧ a = (i : Int) ∧ (es.getD i Ent.none).may = false ∧ ∀ j, j < i → (es.getD j Ent.none).may = true
set_option maxRecDepth 100000 in
set_option maxHeartbeats 16000000 in
theorem textlists_true (A0 A1 A2 : Option Addr) (n0 c0 n1 c1 n2 c2 : Nat) (es0 : List Ev) (es1 : List Ent) (bs : List UInt8) (w : World) (hT : TxW w) (hG : 9 ≤ w.heap.size)
 (hr0 : C20.RdE w A0 es0) (hl0 : es0.length = n0) (hr1 : RdEo w A1 es1) (hl1 : es1.length = n1) (hr2 : RdN .u8 w A2 (bI bs)) (hl2 : bs.length = n2) :
 Calls Tryz.prog 7 #[.slice A0 n0 c0, .slice A1 n1 c1, .slice A2 n2 c2] w fun e w' => e = .returned (.bool true) ∧ Below w.heap.size w w' := by
 have HA := Lib.hid (alive_true w hT hG)
 have HT := Lib.hid hT
 have HG := Lib.hid hG
 have HR0 := Lib.hid hr0
 have HL0 := Lib.hid hl0
 have HR1 := Lib.hid hr1
 have HL1 := Lib.hid hl1
 have HR2 := Lib.hid hr2
 have HL2 := Lib.hid hl2
 clear hT hG hr0 hl0 hr1 hl1 hr2 hl2
 by_cases q0 : 60 < n0
 ·have q0' : (60 : Int) < (n0 : Int) := by omega
  go_enter Tryz.func7, Tryz.ntmps7
  go_wp2_with fail
  refine HA.out.mono ?_
  rintro e w1 ⟨rfl, hb1⟩
  go_wp2
  go_ret
  exact ⟨rfl, hb1⟩
 have q0' : ¬ (60 : Int) < (n0 : Int) := by omega
 by_cases q1 : 60 < n1
 ·have q1' : (60 : Int) < (n1 : Int) := by omega
  go_enter Tryz.func7, Tryz.ntmps7
  go_wp2_with fail
  refine HA.out.mono ?_
  rintro e w1 ⟨rfl, hb1⟩
  go_wp2
  go_ret
  exact ⟨rfl, hb1⟩
 have q1' : ¬ (60 : Int) < (n1 : Int) := by omega
 by_cases q2 : 2000 < n2
 ·have q2' : (2000 : Int) < (n2 : Int) := by omega
  go_enter Tryz.func7, Tryz.ntmps7
  go_wp2_with fail
  refine HA.out.mono ?_
  rintro e w1 ⟨rfl, hb1⟩
  go_wp2
  go_ret
  exact ⟨rfl, hb1⟩
 have q2' : ¬ (2000 : Int) < (n2 : Int) := by omega
 go_enter Tryz.func7, Tryz.ntmps7
 go_wp2_with fail
 refine HA.out.mono ?_
 rintro e w1 ⟨rfl, hb1⟩
 have HB1 := Lib.hid hb1
 clear hb1 HA
 go_wp2
 have q0 : n0 ≤ 60 := by omega
 have q1 : n1 ≤ 60 := by omega
 have q2 : n2 ≤ 2000 := by omega
 clear q0' q1' q2'
 go_loopw [7, 8, 9, 10] (fun vw va vc vi wr => ∃ (k : Nat) (c a : Int), k ≤ n0 ∧ vi = .int .i64 k ∧ vc = .int .i64 c ∧ va = .int .i64 a ∧ vw = .string (bsA (evLn (es0.take k))) ∧ StE es0 k c a ∧ Below w.heap.size w wr) (fun _ _ _ vi _ => n0 - (intOf vi).toNat)
 case atStart => exact ⟨0, 0, -1, Nat.zero_le _, rfl, rfl, rfl, rfl, .inl ⟨rfl, rfl, fun j hj => by omega⟩, HB1.out⟩
 case round =>
  obtain ⟨k, c, a, hk, rfl, rfl, rfl, rfl, hst, hbr⟩ := hrel
  have HBR := Lib.hid hbr
  have HST := Lib.hid hst
  clear hbr
  rcases hst with ⟨rfl, rfl, hok⟩ | ⟨i, rfl, rfl, hc, hno, hok⟩
  ·by_cases hlt : k < n0
   ·have hlt' : (k : Int) < n0 := by omega
    have hk0 : (0 : Int) ≤ k := by omega
    obtain ⟨ga, oa, hA, hca⟩ := HR0.out.below HBR.out (Nat.le_refl _)
    obtain ⟨rfl, lga⟩ := hA (by rw [HL0.out]; omega)
    obtain ⟨p0, p1, p2, p3, p4, p5, p6⟩ := hca k (by rw [HL0.out]; exact hlt)
    have HTK := Lib.hid (take_evN (l := es0) (k := k) (by rw [HL0.out]; exact hlt))
    have HOK := Lib.hid hok
    obtain ⟨E, hE⟩ : ∃ E, es0.getD k C20.Ev.none = E := ⟨_, rfl⟩
    rw [hE] at p0 p1 p2 p3 p4 p5 p6 HTK
    have HE := Lib.hid hE
    have HEV := Lib.hid (fun W => revent_any E W)
    have hsx := evS_len E
    have hsl := evLn_len (es0.take k)
    have htl : (es0.take k).length ≤ 60 := by rw [List.length_take]; omega
    have HLN := Lib.hid (show bsA (evLn (es0.take k)) ++ bsA (evS E) ++ ⟨#[10]⟩ = bsA (evLn (es0.take (k + 1))) from by rw [HTK.out, evLn_snoc, bsA_ln])
    obtain ⟨X, hX⟩ : ∃ x, bsA (evS E) = x := ⟨_, rfl⟩
    obtain ⟨Y, hY⟩ : ∃ x, bsA (evLn (es0.take k)) = x := ⟨_, rfl⟩
    have hxs : X.size ≤ 1000 := by rw [← hX, bs_size]; exact hsx
    have hys : Y.size ≤ 100000 := by rw [← hY, bs_size]; omega
    have hz1 : ¬ 9223372036854775807 < Y.size + X.size := by omega
    have hz2 : ¬ 9223372036854775807 < Y.size + X.size + 1 := by omega
    obtain ⟨C, hC⟩ : ∃ x, evE E = x := ⟨_, rfl⟩
    rw [hX, hC] at HEV
    rw [hX, hY] at HLN
    rw [hY]
    have HC := Lib.hid hC
    obtain ⟨e0, e1, e2, e3, e4, e5, e6⟩ := E
    unfold evC at HEV
    simp only at p0 p1 p2 p3 p4 p5 p6 HEV
    clear hA hca hX hY hC hE hok hsx hsl htl HTK
    go_wp2_with fail
    refine (HEV.out _).mono ?_
    rintro e w5 ⟨rfl, hb5⟩
    have HB5 := Lib.hid (HBR.out.trans (hb5.mono HBR.out.size))
    clear hb5 p0 p1 p2 p3 p4 p5 p6 HEV
    by_cases hC0 : C = 0
    ·have hok0 : evOk ⟨e0, e1, e2, e3, e4, e5, e6⟩ = true := by
      by_cases q : evOk ⟨e0, e1, e2, e3, e4, e5, e6⟩ = true
      ·exact q
      ·have := evE_no q; rw [HC.out, hC0] at this; omega
     have HO0 := Lib.hid hok0
     clear hok0
     subst hC0
     go_wp2
     go_roundw
     case rel =>
      refine ⟨k + 1, 0, -1, by omega, by go_num, rfl, rfl, by rw [HLN.out], .inl ⟨rfl, rfl, fun j hj => ?_⟩, HB5.out⟩
      by_cases q : j < k
      ·exact HOK.out j q
      ·obtain rfl : j = k := by omega
       rw [HE.out]; exact HO0.out
     case measure => simp [intOf]; omega
    ·have HO0 := Lib.hid (show evOk ⟨e0, e1, e2, e3, e4, e5, e6⟩ = false from by
      by_cases q : evOk ⟨e0, e1, e2, e3, e4, e5, e6⟩ = true
      ·exact absurd (HC.out.symm.trans (evE_ok q)) hC0
      ·simpa using q)
     have hcb : (C == 0) = false := by simp [hC0]
     go_wp2
     go_roundw
     case rel =>
      refine ⟨k + 1, C, k, by omega, by go_num, rfl, rfl, by rw [HLN.out], .inr ⟨k, rfl, rfl, ?_, ?_, HOK.out⟩, HB5.out⟩
      ·rw [HE.out]; exact HC.out.symm
      ·rw [HE.out]; exact HO0.out
     case measure => simp [intOf]; omega
   ·obtain rfl : k = n0 := by omega
    have hnn : ¬ (k : Int) < k := by omega
    have htk : es0.take k = es0 := List.take_of_length_le (by rw [HL0.out]; exact Nat.le_refl _)
    rw [htk]
    have HOK := Lib.hid hok
    have HTA := Lib.hid (trace_any A0 k c0 es0 wr (HT.out.below HBR.out) (HR0.out.below HBR.out (Nat.le_refl _)) HL0.out (by omega))
    clear htk hok hlt HST
    go_wp2_with fail
    refine HTA.out.mono ?_
    rintro e w8 ⟨hta, hb8⟩
    have HB8 := Lib.hid (HBR.out.trans (hb8.mono HBR.out.size))
    rcases hta with ⟨_, v, rfl, hown⟩ | ⟨i, b, h1, h2, h3, _⟩
    ·obtain ⟨_, A8, c8, rfl, _, _, hr8, _⟩ := rdn_of_own hown
     have hv1 := conv_bI (c := c8) hr8 rfl
     clear hown hr8 hb8
     clear HR0 HL0
     go_wp2
     go_loopw [7, 8, 15, 16] (fun vw va vin vi wr => ∃ (k : Nat) (a : Int), k ≤ n1 ∧ vi = .int .i64 k ∧ va = .int .i64 a ∧ vw = .string (bsA (enLn (es1.take k))) ∧ StN es1 k a ∧ Below w8.heap.size w8 wr ∧ wr.ownsRow w8.heap.size 33 6 vin k (flat (es1.take k))) (fun _ _ _ vi _ => n1 - (intOf vi).toNat)
     case atStart => exact ⟨0, -1, Nat.zero_le _, rfl, rfl, rfl, .inl ⟨rfl, fun j hj => by omega⟩, Below.refl _ _, ⟨rfl, .inl ⟨rfl, rfl⟩⟩⟩
     case round =>
      obtain ⟨k, a, hk, rfl, rfl, rfl, hst, hbr, how⟩ := hrel
      have HBQ := Lib.hid hbr
      have HBR := Lib.hid (HB8.out.trans (hbr.mono HB8.out.size))
      have HOW := Lib.hid how
      have HST := Lib.hid hst
      clear how hst hbr
      by_cases hlt : k < n1
      ·have hlt' : (k : Int) < n1 := by omega
       have hk0 : (0 : Int) ≤ k := by omega
       obtain ⟨ga, oa, hA, hca⟩ := HR1.out.below HBR.out
       obtain ⟨rfl, lga⟩ := hA (by rw [HL1.out]; omega)
       obtain ⟨p0, p1, p2, p3, p4, p5⟩ := hca k (by rw [HL1.out]; exact hlt)
       have HTK := Lib.hid (take_snocN (l := es1) (k := k) (by rw [HL1.out]; exact hlt))
       obtain ⟨E, hE⟩ : ∃ E, es1.getD k Ent.none = E := ⟨_, rfl⟩
       rw [hE] at p0 p1 p2 p3 p4 p5 HTK
       have HE := Lib.hid hE
       have HEN := Lib.hid (fun W => rentry_any E W)
       have hsx := entS_len E
       have hsl := enLn_len (es1.take k)
       have htl : (es1.take k).length ≤ 60 := by rw [List.length_take]; omega
       have HLN := Lib.hid (show bsA (enLn (es1.take k)) ++ bsA (entS E) ++ ⟨#[10]⟩ = bsA (enLn (es1.take (k + 1))) from by rw [HTK.out, enLn_snoc, bsA_ln])
       obtain ⟨X, hX⟩ : ∃ x, bsA (entS E) = x := ⟨_, rfl⟩
       obtain ⟨Y, hY⟩ : ∃ x, bsA (enLn (es1.take k)) = x := ⟨_, rfl⟩
       have hxs : X.size ≤ 1000 := by rw [← hX, bs_size]; exact hsx
       have hys : Y.size ≤ 100000 := by rw [← hY, bs_size]; omega
       have hz1 : ¬ 9223372036854775807 < Y.size + X.size := by omega
       have hz2 : ¬ 9223372036854775807 < Y.size + X.size + 1 := by omega
       obtain ⟨M, hM⟩ : ∃ x, E.may = x := ⟨_, rfl⟩
       rw [hX, hM] at HEN
       rw [hX, hY] at HLN
       rw [hY]
       have HM := Lib.hid hM
       obtain ⟨e0, e1, e2, e3, e4, e5⟩ := E
       unfold entA at HEN
       simp only at p0 p1 p2 p3 p4 p5 HEN
       have hkn : k + 1 ≤ 1000000 := by omega
       clear hA hca hX hY hM hE hsx hsl htl lga
       go_wp2_with fail
       refine (of_any e0 e1 e2 e3 e4 e5 _).mono ?_
       rintro e w5 ⟨rfl, hb5⟩
       have how6 := (own_below HOW.out hb5).alloc (.cells #[.int .i64 e0, .int .i64 e1, .int .i64 e2, .int .i64 e3, .int .i64 e4, .int .i64 e5] 33)
       have hb5' := HBQ.out.trans (hb5.mono HBQ.out.size)
       have HB6 := Lib.hid (hb5'.alloc hb5'.size (.cells #[.int .i64 e0, .int .i64 e1, .int .i64 e2, .int .i64 e3, .int .i64 e4, .int .i64 e5] 33))
       have hro := rdeo_one w5 e0 e1 e2 e3 e4 e5 33
       have HC5 := Lib.hid (And.intro (cell_keep hb5 p0) (And.intro (cell_keep hb5 p1) (And.intro (cell_keep hb5 p2) (And.intro (cell_keep hb5 p3) (And.intro (cell_keep hb5 p4) (cell_keep hb5 p5))))))
       clear p0 p1 p2 p3 p4 p5 hb5 hb5'
       go_wp2_with (at_builtin; refine wpList_append_ents rfl _ _ rfl rfl w8.heap.size _ k (flat (es1.take k)) rfl how6 ⟨w5.heap.size, 0, none⟩ 1 1 [⟨e0, e1, e2, e3, e4, e5⟩] rfl rfl hro HB6.out.size hkn ?_; intro v7 w7 hown7 hg7; have HB7 := Lib.hid (Below.grown HB6.out hg7 HB6.out.size (fun q hq => (how6.lt q hq).1)); have HBR7 := Lib.hid (HB8.out.trans (HB7.out.mono HB8.out.size)); obtain ⟨gb, ob, hA, hca⟩ := HR1.out.below HBR7.out; obtain ⟨hgo, lga⟩ := hA (by rw [HL1.out]; omega); cases hgo; obtain ⟨p0, p1, p2, p3, p4, p5⟩ := hca k (by rw [HL1.out]; exact hlt); rw [HE.out] at p0 p1 p2 p3 p4 p5; dsimp only at p0 p1 p2 p3 p4 p5; clear hA hca)
       rw [← flat_append, ← HTK.out] at hown7
       have HO7 := Lib.hid hown7
       clear hown7 hg7 how6 hro p0 p1 p2 p3 p4 p5 lga
       refine (HEN.out _).mono ?_
       rintro e w9 ⟨rfl, hb9⟩
       have HB9 := Lib.hid (HB7.out.trans (hb9.mono HB7.out.size))
       have HO9 := Lib.hid (own_below HO7.out hb9)
       clear hb9 HEN
       rcases HST.out with ⟨rfl, hok⟩ | ⟨i, hi, rfl, hno, hok⟩
       ·have HOK := Lib.hid hok
        clear hok
        cases M with
        | true =>
         go_wp2
         go_roundw
         case rel =>
          refine ⟨k + 1, -1, by omega, by go_num, rfl, by rw [HLN.out], .inl ⟨rfl, fun j hj => ?_⟩, HB9.out, HO9.out⟩
          by_cases q : j < k
          ·exact HOK.out j q
          ·obtain rfl : j = k := by omega
           rw [HE.out]; exact HM.out
         case measure => simp [intOf]; omega
        | false =>
         go_wp2
         go_roundw
         case rel => exact ⟨k + 1, k, by omega, by go_num, rfl, by rw [HLN.out], .inr ⟨k, by omega, rfl, by rw [HE.out]; exact HM.out, HOK.out⟩, HB9.out, HO9.out⟩
         case measure => simp [intOf]; omega
       ·have hi0 : ¬ ((i : Int) < 0) := by omega
        have HOK := Lib.hid hok
        have HNO := Lib.hid hno
        clear hok hno
        cases M with
        | true =>
         go_wp2
         go_roundw
         case rel => exact ⟨k + 1, i, by omega, by go_num, rfl, by rw [HLN.out], .inr ⟨i, by omega, rfl, HNO.out, HOK.out⟩, HB9.out, HO9.out⟩
         case measure => simp [intOf]; omega
        | false =>
         go_wp2
         go_roundw
         case rel => exact ⟨k + 1, i, by omega, by go_num, rfl, by rw [HLN.out], .inr ⟨i, by omega, rfl, HNO.out, HOK.out⟩, HB9.out, HO9.out⟩
         case measure => simp [intOf]; omega
      ·obtain rfl : n1 = k := by omega
       have hnn : ¬ (n1 : Int) < n1 := by omega
       have htk : es1.take n1 = es1 := List.take_of_length_le (by rw [HL1.out]; exact Nat.le_refl _)
       have how := HOW.out
       rw [htk] at how
       rw [htk]
       obtain ⟨_, A5, c5, rfl, _, hr5⟩ := rdeo_of_own how
       have HSC := Lib.hid (script_any A5 n1 c5 es1 wr (HT.out.below HBR.out) hr5 HL1.out (by omega))
       clear how htk hr5 HOW hk hlt
       rcases HST.out with ⟨rfl, hok⟩ | ⟨i, hi, rfl, hno, hok⟩
       ·have HOK := Lib.hid hok
        clear hok
        go_wp2_with fail
        refine HSC.out.mono ?_
        rintro e w12 ⟨hsc, hb12⟩
        have HB12 := Lib.hid (HBR.out.trans (hb12.mono HBR.out.size))
        have HRD := Lib.hid (reads_true A2 n2 c2 bs w12 (HT.out.below HB12.out) (Nat.le_trans HG.out HB12.out.size) (HR2.out.below HB12.out) HL2.out (by omega))
        rcases hsc with ⟨_, v, rfl, hown⟩ | ⟨i, b, h1, h2, h3, _⟩
        ·obtain ⟨_, A8, c8, rfl, _, _, hr8, _⟩ := rdn_of_own hown
         have hv1 := conv_bI (c := c8) hr8 rfl
         clear hown hr8 hb12 HSC
         go_wp2_with fail
         refine HRD.out.mono ?_
         rintro e w13 ⟨rfl, hb13⟩
         have HB13 := Lib.hid (HB12.out.trans (hb13.mono HB12.out.size))
         clear hb13
         go_wp2
         go_ret
         exact ⟨rfl, HB13.out⟩
        ·exfalso
         dsimp only at h3
         rw [HOK.out i h1] at h3
         cases h3
       ·have hi0 : ¬ ((i : Int) < 0) := by omega
        have HOK := Lib.hid hok
        have HNO := Lib.hid hno
        clear hok hno
        obtain ⟨Y, hY⟩ : ∃ x, bsA (enLn es1) = x := ⟨_, rfl⟩
        rw [hY]
        clear hY
        go_wp2_with fail
        refine HSC.out.mono ?_
        rintro e w12 ⟨hsc, hb12⟩
        have HB12 := Lib.hid (HBR.out.trans (hb12.mono HBR.out.size))
        rcases hsc with ⟨h1, _⟩ | ⟨i', b, h1, h2, h3, rfl, h4, h5⟩
        ·exfalso
         have := h1 i hi
         dsimp only at this
         rw [HNO.out] at this
         cases this
        ·obtain rfl : i' = i := by
          rcases Nat.lt_trichotomy i' i with q | q | q
          ·dsimp only at h3; rw [HOK.out i' q] at h3; cases h3
          ·exact q
          ·have := h2 i q; dsimp only at this; rw [HNO.out] at this; cases this
         have hE5 : entE (es1.getD i' Ent.none) = 5 := by unfold entE; rw [if_neg (by rw [HNO.out]; decide)]
         have HE := Lib.hid (show ErrIs w12 (.iface 97 (.pointer (some ⟨b, 0, none⟩))) 5 (i' : Int) from .inr (.inr ⟨b, rfl, by omega, by omega, h4, by rw [← hE5]; exact h5⟩))
         have HC := Lib.hid (code_err _ 5 i' w12 HE.out)
         have HA := Lib.hid (at_err _ 5 i' w12 HE.out (HT.out.below HB12.out).err)
         clear h1 h2 h3 h4 h5 hb12 HSC hE5
         go_wp2_with fail
         refine HC.out.mono ?_
         rintro e w13 ⟨rfl, rfl⟩
         go_wp2_with fail
         refine HA.out.mono ?_
         rintro e w14 ⟨rfl, hb14⟩
         have HB14 := Lib.hid (HB12.out.trans (hb14.mono HB12.out.size))
         have HRD := Lib.hid (reads_true A2 n2 c2 bs w14 (HT.out.below HB14.out) (Nat.le_trans HG.out HB14.out.size) (HR2.out.below HB14.out) HL2.out (by omega))
         clear hb14 HA HC HE
         go_wp2_with fail
         refine HRD.out.mono ?_
         rintro e w15 ⟨rfl, hb15⟩
         have HB15 := Lib.hid (HB14.out.trans (hb15.mono HB14.out.size))
         clear hb15
         go_wp2
         go_ret
         exact ⟨rfl, HB15.out⟩
    ·exfalso
     dsimp only at h3
     rw [HOK.out i h1] at h3
     cases h3
  ·have hin : i < n0 := by omega
   have HTA := Lib.hid (trace_any A0 n0 c0 es0 wr (HT.out.below HBR.out) (HR0.out.below HBR.out (Nat.le_refl _)) HL0.out (by omega))
   have hcc : c ≠ 0 := by
    rcases evE_no (e := es0.getD i C20.Ev.none) (by rw [hno]; decide) with h | h <;> omega
   have hc15 : 1 ≤ c ∧ c ≤ 15 := by
    rcases evE_no (e := es0.getD i C20.Ev.none) (by rw [hno]; decide) with h | h <;> omega
   have hcb : (c == 0) = false := by simp [hcc]
   have HCE := Lib.hid hc
   have HNO := Lib.hid hno
   have HOK := Lib.hid hok
   have HC15 := Lib.hid hc15
   clear hc hno hok hc15 HST
   obtain ⟨Y, hY⟩ : ∃ x, bsA (evLn (es0.take (i + 1))) = x := ⟨_, rfl⟩
   rw [hY]
   clear hY
   by_cases hql : ((i + 1 : Nat) : Int) < (n0 : Int)
   ·skip
    go_wp2_with fail
    refine HTA.out.mono ?_
    rintro e w8 ⟨hta, hb8⟩
    have HB8 := Lib.hid (HBR.out.trans (hb8.mono HBR.out.size))
    rcases hta with ⟨h1, _⟩ | ⟨i', b, h1, h2, h3, rfl, h4, h5⟩
    ·exfalso
     have := h1 i hin
     dsimp only at this
     rw [HNO.out] at this
     cases this
    ·obtain rfl : i' = i := by
      rcases Nat.lt_trichotomy i' i with q | q | q
      ·dsimp only at h3; rw [HOK.out i' q] at h3; cases h3
      ·exact q
      ·have := h2 i q; dsimp only at this; rw [HNO.out] at this; cases this
     have HE := Lib.hid (show ErrIs w8 (.iface 97 (.pointer (some ⟨b, 0, none⟩))) c (i' : Int) from .inr (.inr ⟨b, rfl, HC15.out.1, HC15.out.2, h4, by rw [HCE.out]; exact h5⟩))
     have HC := Lib.hid (code_err _ c i' w8 HE.out)
     have HA := Lib.hid (at_err _ c i' w8 HE.out (HT.out.below HB8.out).err)
     clear h1 h2 h3 h4 h5 hb8 HTA
     go_wp2_with fail
     refine HC.out.mono ?_
     rintro e w9 ⟨rfl, rfl⟩
     go_wp2_with fail
     refine HA.out.mono ?_
     rintro e w10 ⟨rfl, hb10⟩
     have HB10 := Lib.hid (HB8.out.trans (hb10.mono HB8.out.size))
     clear hb10 HA HC HE
     clear HR0 HL0
     go_wp2
     go_loopw [7, 8, 15, 16] (fun vw va vin vi wr => ∃ (k : Nat) (a : Int), k ≤ n1 ∧ vi = .int .i64 k ∧ va = .int .i64 a ∧ vw = .string (bsA (enLn (es1.take k))) ∧ StN es1 k a ∧ Below w10.heap.size w10 wr ∧ wr.ownsRow w10.heap.size 33 6 vin k (flat (es1.take k))) (fun _ _ _ vi _ => n1 - (intOf vi).toNat)
     case atStart => exact ⟨0, -1, Nat.zero_le _, rfl, rfl, rfl, .inl ⟨rfl, fun j hj => by omega⟩, Below.refl _ _, ⟨rfl, .inl ⟨rfl, rfl⟩⟩⟩
     case round =>
      obtain ⟨k, a, hk, rfl, rfl, rfl, hst, hbr, how⟩ := hrel
      have HBQ := Lib.hid hbr
      have HBR := Lib.hid (HB10.out.trans (hbr.mono HB10.out.size))
      have HOW := Lib.hid how
      have HST := Lib.hid hst
      clear how hst hbr
      by_cases hlt : k < n1
      ·have hlt' : (k : Int) < n1 := by omega
       have hk0 : (0 : Int) ≤ k := by omega
       obtain ⟨ga, oa, hA, hca⟩ := HR1.out.below HBR.out
       obtain ⟨rfl, lga⟩ := hA (by rw [HL1.out]; omega)
       obtain ⟨p0, p1, p2, p3, p4, p5⟩ := hca k (by rw [HL1.out]; exact hlt)
       have HTK := Lib.hid (take_snocN (l := es1) (k := k) (by rw [HL1.out]; exact hlt))
       obtain ⟨E, hE⟩ : ∃ E, es1.getD k Ent.none = E := ⟨_, rfl⟩
       rw [hE] at p0 p1 p2 p3 p4 p5 HTK
       have HE := Lib.hid hE
       have HEN := Lib.hid (fun W => rentry_any E W)
       have hsx := entS_len E
       have hsl := enLn_len (es1.take k)
       have htl : (es1.take k).length ≤ 60 := by rw [List.length_take]; omega
       have HLN := Lib.hid (show bsA (enLn (es1.take k)) ++ bsA (entS E) ++ ⟨#[10]⟩ = bsA (enLn (es1.take (k + 1))) from by rw [HTK.out, enLn_snoc, bsA_ln])
       obtain ⟨X, hX⟩ : ∃ x, bsA (entS E) = x := ⟨_, rfl⟩
       obtain ⟨Y, hY⟩ : ∃ x, bsA (enLn (es1.take k)) = x := ⟨_, rfl⟩
       have hxs : X.size ≤ 1000 := by rw [← hX, bs_size]; exact hsx
       have hys : Y.size ≤ 100000 := by rw [← hY, bs_size]; omega
       have hz1 : ¬ 9223372036854775807 < Y.size + X.size := by omega
       have hz2 : ¬ 9223372036854775807 < Y.size + X.size + 1 := by omega
       obtain ⟨M, hM⟩ : ∃ x, E.may = x := ⟨_, rfl⟩
       rw [hX, hM] at HEN
       rw [hX, hY] at HLN
       rw [hY]
       have HM := Lib.hid hM
       obtain ⟨e0, e1, e2, e3, e4, e5⟩ := E
       unfold entA at HEN
       simp only at p0 p1 p2 p3 p4 p5 HEN
       have hkn : k + 1 ≤ 1000000 := by omega
       clear hA hca hX hY hM hE hsx hsl htl lga
       go_wp2_with fail
       refine (of_any e0 e1 e2 e3 e4 e5 _).mono ?_
       rintro e w5 ⟨rfl, hb5⟩
       have how6 := (own_below HOW.out hb5).alloc (.cells #[.int .i64 e0, .int .i64 e1, .int .i64 e2, .int .i64 e3, .int .i64 e4, .int .i64 e5] 33)
       have hb5' := HBQ.out.trans (hb5.mono HBQ.out.size)
       have HB6 := Lib.hid (hb5'.alloc hb5'.size (.cells #[.int .i64 e0, .int .i64 e1, .int .i64 e2, .int .i64 e3, .int .i64 e4, .int .i64 e5] 33))
       have hro := rdeo_one w5 e0 e1 e2 e3 e4 e5 33
       have HC5 := Lib.hid (And.intro (cell_keep hb5 p0) (And.intro (cell_keep hb5 p1) (And.intro (cell_keep hb5 p2) (And.intro (cell_keep hb5 p3) (And.intro (cell_keep hb5 p4) (cell_keep hb5 p5))))))
       clear p0 p1 p2 p3 p4 p5 hb5 hb5'
       go_wp2_with (at_builtin; refine wpList_append_ents rfl _ _ rfl rfl w10.heap.size _ k (flat (es1.take k)) rfl how6 ⟨w5.heap.size, 0, none⟩ 1 1 [⟨e0, e1, e2, e3, e4, e5⟩] rfl rfl hro HB6.out.size hkn ?_; intro v7 w7 hown7 hg7; have HB7 := Lib.hid (Below.grown HB6.out hg7 HB6.out.size (fun q hq => (how6.lt q hq).1)); have HBR7 := Lib.hid (HB10.out.trans (HB7.out.mono HB10.out.size)); obtain ⟨gb, ob, hA, hca⟩ := HR1.out.below HBR7.out; obtain ⟨hgo, lga⟩ := hA (by rw [HL1.out]; omega); cases hgo; obtain ⟨p0, p1, p2, p3, p4, p5⟩ := hca k (by rw [HL1.out]; exact hlt); rw [HE.out] at p0 p1 p2 p3 p4 p5; dsimp only at p0 p1 p2 p3 p4 p5; clear hA hca)
       rw [← flat_append, ← HTK.out] at hown7
       have HO7 := Lib.hid hown7
       clear hown7 hg7 how6 hro p0 p1 p2 p3 p4 p5 lga
       refine (HEN.out _).mono ?_
       rintro e w9 ⟨rfl, hb9⟩
       have HB9 := Lib.hid (HB7.out.trans (hb9.mono HB7.out.size))
       have HO9 := Lib.hid (own_below HO7.out hb9)
       clear hb9 HEN
       rcases HST.out with ⟨rfl, hok⟩ | ⟨i, hi, rfl, hno, hok⟩
       ·have HOK := Lib.hid hok
        clear hok
        cases M with
        | true =>
         go_wp2
         go_roundw
         case rel =>
          refine ⟨k + 1, -1, by omega, by go_num, rfl, by rw [HLN.out], .inl ⟨rfl, fun j hj => ?_⟩, HB9.out, HO9.out⟩
          by_cases q : j < k
          ·exact HOK.out j q
          ·obtain rfl : j = k := by omega
           rw [HE.out]; exact HM.out
         case measure => simp [intOf]; omega
        | false =>
         go_wp2
         go_roundw
         case rel => exact ⟨k + 1, k, by omega, by go_num, rfl, by rw [HLN.out], .inr ⟨k, by omega, rfl, by rw [HE.out]; exact HM.out, HOK.out⟩, HB9.out, HO9.out⟩
         case measure => simp [intOf]; omega
       ·have hi0 : ¬ ((i : Int) < 0) := by omega
        have HOK := Lib.hid hok
        have HNO := Lib.hid hno
        clear hok hno
        cases M with
        | true =>
         go_wp2
         go_roundw
         case rel => exact ⟨k + 1, i, by omega, by go_num, rfl, by rw [HLN.out], .inr ⟨i, by omega, rfl, HNO.out, HOK.out⟩, HB9.out, HO9.out⟩
         case measure => simp [intOf]; omega
        | false =>
         go_wp2
         go_roundw
         case rel => exact ⟨k + 1, i, by omega, by go_num, rfl, by rw [HLN.out], .inr ⟨i, by omega, rfl, HNO.out, HOK.out⟩, HB9.out, HO9.out⟩
         case measure => simp [intOf]; omega
      ·obtain rfl : n1 = k := by omega
       have hnn : ¬ (n1 : Int) < n1 := by omega
       have htk : es1.take n1 = es1 := List.take_of_length_le (by rw [HL1.out]; exact Nat.le_refl _)
       have how := HOW.out
       rw [htk] at how
       rw [htk]
       obtain ⟨_, A5, c5, rfl, _, hr5⟩ := rdeo_of_own how
       have HSC := Lib.hid (script_any A5 n1 c5 es1 wr (HT.out.below HBR.out) hr5 HL1.out (by omega))
       clear how htk hr5 HOW hk hlt
       rcases HST.out with ⟨rfl, hok⟩ | ⟨i, hi, rfl, hno, hok⟩
       ·have HOK := Lib.hid hok
        clear hok
        go_wp2_with fail
        refine HSC.out.mono ?_
        rintro e w12 ⟨hsc, hb12⟩
        have HB12 := Lib.hid (HBR.out.trans (hb12.mono HBR.out.size))
        have HRD := Lib.hid (reads_true A2 n2 c2 bs w12 (HT.out.below HB12.out) (Nat.le_trans HG.out HB12.out.size) (HR2.out.below HB12.out) HL2.out (by omega))
        rcases hsc with ⟨_, v, rfl, hown⟩ | ⟨i, b, h1, h2, h3, _⟩
        ·obtain ⟨_, A8, c8, rfl, _, _, hr8, _⟩ := rdn_of_own hown
         have hv1 := conv_bI (c := c8) hr8 rfl
         clear hown hr8 hb12 HSC
         go_wp2_with fail
         refine HRD.out.mono ?_
         rintro e w13 ⟨rfl, hb13⟩
         have HB13 := Lib.hid (HB12.out.trans (hb13.mono HB12.out.size))
         clear hb13
         go_wp2
         go_ret
         exact ⟨rfl, HB13.out⟩
        ·exfalso
         dsimp only at h3
         rw [HOK.out i h1] at h3
         cases h3
       ·have hi0 : ¬ ((i : Int) < 0) := by omega
        have HOK := Lib.hid hok
        have HNO := Lib.hid hno
        clear hok hno
        obtain ⟨Y, hY⟩ : ∃ x, bsA (enLn es1) = x := ⟨_, rfl⟩
        rw [hY]
        clear hY
        go_wp2_with fail
        refine HSC.out.mono ?_
        rintro e w12 ⟨hsc, hb12⟩
        have HB12 := Lib.hid (HBR.out.trans (hb12.mono HBR.out.size))
        rcases hsc with ⟨h1, _⟩ | ⟨i', b, h1, h2, h3, rfl, h4, h5⟩
        ·exfalso
         have := h1 i hi
         dsimp only at this
         rw [HNO.out] at this
         cases this
        ·obtain rfl : i' = i := by
          rcases Nat.lt_trichotomy i' i with q | q | q
          ·dsimp only at h3; rw [HOK.out i' q] at h3; cases h3
          ·exact q
          ·have := h2 i q; dsimp only at this; rw [HNO.out] at this; cases this
         have hE5 : entE (es1.getD i' Ent.none) = 5 := by unfold entE; rw [if_neg (by rw [HNO.out]; decide)]
         have HE := Lib.hid (show ErrIs w12 (.iface 97 (.pointer (some ⟨b, 0, none⟩))) 5 (i' : Int) from .inr (.inr ⟨b, rfl, by omega, by omega, h4, by rw [← hE5]; exact h5⟩))
         have HC := Lib.hid (code_err _ 5 i' w12 HE.out)
         have HA := Lib.hid (at_err _ 5 i' w12 HE.out (HT.out.below HB12.out).err)
         clear h1 h2 h3 h4 h5 hb12 HSC hE5
         go_wp2_with fail
         refine HC.out.mono ?_
         rintro e w13 ⟨rfl, rfl⟩
         go_wp2_with fail
         refine HA.out.mono ?_
         rintro e w14 ⟨rfl, hb14⟩
         have HB14 := Lib.hid (HB12.out.trans (hb14.mono HB12.out.size))
         have HRD := Lib.hid (reads_true A2 n2 c2 bs w14 (HT.out.below HB14.out) (Nat.le_trans HG.out HB14.out.size) (HR2.out.below HB14.out) HL2.out (by omega))
         clear hb14 HA HC HE
         go_wp2_with fail
         refine HRD.out.mono ?_
         rintro e w15 ⟨rfl, hb15⟩
         have HB15 := Lib.hid (HB14.out.trans (hb15.mono HB14.out.size))
         clear hb15
         go_wp2
         go_ret
         exact ⟨rfl, HB15.out⟩
   ·skip
    go_wp2_with fail
    refine HTA.out.mono ?_
    rintro e w8 ⟨hta, hb8⟩
    have HB8 := Lib.hid (HBR.out.trans (hb8.mono HBR.out.size))
    rcases hta with ⟨h1, _⟩ | ⟨i', b, h1, h2, h3, rfl, h4, h5⟩
    ·exfalso
     have := h1 i hin
     dsimp only at this
     rw [HNO.out] at this
     cases this
    ·obtain rfl : i' = i := by
      rcases Nat.lt_trichotomy i' i with q | q | q
      ·dsimp only at h3; rw [HOK.out i' q] at h3; cases h3
      ·exact q
      ·have := h2 i q; dsimp only at this; rw [HNO.out] at this; cases this
     have HE := Lib.hid (show ErrIs w8 (.iface 97 (.pointer (some ⟨b, 0, none⟩))) c (i' : Int) from .inr (.inr ⟨b, rfl, HC15.out.1, HC15.out.2, h4, by rw [HCE.out]; exact h5⟩))
     have HC := Lib.hid (code_err _ c i' w8 HE.out)
     have HA := Lib.hid (at_err _ c i' w8 HE.out (HT.out.below HB8.out).err)
     clear h1 h2 h3 h4 h5 hb8 HTA
     go_wp2_with fail
     refine HC.out.mono ?_
     rintro e w9 ⟨rfl, rfl⟩
     go_wp2_with fail
     refine HA.out.mono ?_
     rintro e w10 ⟨rfl, hb10⟩
     have HB10 := Lib.hid (HB8.out.trans (hb10.mono HB8.out.size))
     clear hb10 HA HC HE
     clear HR0 HL0
     go_wp2
     go_loopw [7, 8, 15, 16] (fun vw va vin vi wr => ∃ (k : Nat) (a : Int), k ≤ n1 ∧ vi = .int .i64 k ∧ va = .int .i64 a ∧ vw = .string (bsA (enLn (es1.take k))) ∧ StN es1 k a ∧ Below w10.heap.size w10 wr ∧ wr.ownsRow w10.heap.size 33 6 vin k (flat (es1.take k))) (fun _ _ _ vi _ => n1 - (intOf vi).toNat)
     case atStart => exact ⟨0, -1, Nat.zero_le _, rfl, rfl, rfl, .inl ⟨rfl, fun j hj => by omega⟩, Below.refl _ _, ⟨rfl, .inl ⟨rfl, rfl⟩⟩⟩
     case round =>
      obtain ⟨k, a, hk, rfl, rfl, rfl, hst, hbr, how⟩ := hrel
      have HBQ := Lib.hid hbr
      have HBR := Lib.hid (HB10.out.trans (hbr.mono HB10.out.size))
      have HOW := Lib.hid how
      have HST := Lib.hid hst
      clear how hst hbr
      by_cases hlt : k < n1
      ·have hlt' : (k : Int) < n1 := by omega
       have hk0 : (0 : Int) ≤ k := by omega
       obtain ⟨ga, oa, hA, hca⟩ := HR1.out.below HBR.out
       obtain ⟨rfl, lga⟩ := hA (by rw [HL1.out]; omega)
       obtain ⟨p0, p1, p2, p3, p4, p5⟩ := hca k (by rw [HL1.out]; exact hlt)
       have HTK := Lib.hid (take_snocN (l := es1) (k := k) (by rw [HL1.out]; exact hlt))
       obtain ⟨E, hE⟩ : ∃ E, es1.getD k Ent.none = E := ⟨_, rfl⟩
       rw [hE] at p0 p1 p2 p3 p4 p5 HTK
       have HE := Lib.hid hE
       have HEN := Lib.hid (fun W => rentry_any E W)
       have hsx := entS_len E
       have hsl := enLn_len (es1.take k)
       have htl : (es1.take k).length ≤ 60 := by rw [List.length_take]; omega
       have HLN := Lib.hid (show bsA (enLn (es1.take k)) ++ bsA (entS E) ++ ⟨#[10]⟩ = bsA (enLn (es1.take (k + 1))) from by rw [HTK.out, enLn_snoc, bsA_ln])
       obtain ⟨X, hX⟩ : ∃ x, bsA (entS E) = x := ⟨_, rfl⟩
       obtain ⟨Y, hY⟩ : ∃ x, bsA (enLn (es1.take k)) = x := ⟨_, rfl⟩
       have hxs : X.size ≤ 1000 := by rw [← hX, bs_size]; exact hsx
       have hys : Y.size ≤ 100000 := by rw [← hY, bs_size]; omega
       have hz1 : ¬ 9223372036854775807 < Y.size + X.size := by omega
       have hz2 : ¬ 9223372036854775807 < Y.size + X.size + 1 := by omega
       obtain ⟨M, hM⟩ : ∃ x, E.may = x := ⟨_, rfl⟩
       rw [hX, hM] at HEN
       rw [hX, hY] at HLN
       rw [hY]
       have HM := Lib.hid hM
       obtain ⟨e0, e1, e2, e3, e4, e5⟩ := E
       unfold entA at HEN
       simp only at p0 p1 p2 p3 p4 p5 HEN
       have hkn : k + 1 ≤ 1000000 := by omega
       clear hA hca hX hY hM hE hsx hsl htl lga
       go_wp2_with fail
       refine (of_any e0 e1 e2 e3 e4 e5 _).mono ?_
       rintro e w5 ⟨rfl, hb5⟩
       have how6 := (own_below HOW.out hb5).alloc (.cells #[.int .i64 e0, .int .i64 e1, .int .i64 e2, .int .i64 e3, .int .i64 e4, .int .i64 e5] 33)
       have hb5' := HBQ.out.trans (hb5.mono HBQ.out.size)
       have HB6 := Lib.hid (hb5'.alloc hb5'.size (.cells #[.int .i64 e0, .int .i64 e1, .int .i64 e2, .int .i64 e3, .int .i64 e4, .int .i64 e5] 33))
       have hro := rdeo_one w5 e0 e1 e2 e3 e4 e5 33
       have HC5 := Lib.hid (And.intro (cell_keep hb5 p0) (And.intro (cell_keep hb5 p1) (And.intro (cell_keep hb5 p2) (And.intro (cell_keep hb5 p3) (And.intro (cell_keep hb5 p4) (cell_keep hb5 p5))))))
       clear p0 p1 p2 p3 p4 p5 hb5 hb5'
       go_wp2_with (at_builtin; refine wpList_append_ents rfl _ _ rfl rfl w10.heap.size _ k (flat (es1.take k)) rfl how6 ⟨w5.heap.size, 0, none⟩ 1 1 [⟨e0, e1, e2, e3, e4, e5⟩] rfl rfl hro HB6.out.size hkn ?_; intro v7 w7 hown7 hg7; have HB7 := Lib.hid (Below.grown HB6.out hg7 HB6.out.size (fun q hq => (how6.lt q hq).1)); have HBR7 := Lib.hid (HB10.out.trans (HB7.out.mono HB10.out.size)); obtain ⟨gb, ob, hA, hca⟩ := HR1.out.below HBR7.out; obtain ⟨hgo, lga⟩ := hA (by rw [HL1.out]; omega); cases hgo; obtain ⟨p0, p1, p2, p3, p4, p5⟩ := hca k (by rw [HL1.out]; exact hlt); rw [HE.out] at p0 p1 p2 p3 p4 p5; dsimp only at p0 p1 p2 p3 p4 p5; clear hA hca)
       rw [← flat_append, ← HTK.out] at hown7
       have HO7 := Lib.hid hown7
       clear hown7 hg7 how6 hro p0 p1 p2 p3 p4 p5 lga
       refine (HEN.out _).mono ?_
       rintro e w9 ⟨rfl, hb9⟩
       have HB9 := Lib.hid (HB7.out.trans (hb9.mono HB7.out.size))
       have HO9 := Lib.hid (own_below HO7.out hb9)
       clear hb9 HEN
       rcases HST.out with ⟨rfl, hok⟩ | ⟨i, hi, rfl, hno, hok⟩
       ·have HOK := Lib.hid hok
        clear hok
        cases M with
        | true =>
         go_wp2
         go_roundw
         case rel =>
          refine ⟨k + 1, -1, by omega, by go_num, rfl, by rw [HLN.out], .inl ⟨rfl, fun j hj => ?_⟩, HB9.out, HO9.out⟩
          by_cases q : j < k
          ·exact HOK.out j q
          ·obtain rfl : j = k := by omega
           rw [HE.out]; exact HM.out
         case measure => simp [intOf]; omega
        | false =>
         go_wp2
         go_roundw
         case rel => exact ⟨k + 1, k, by omega, by go_num, rfl, by rw [HLN.out], .inr ⟨k, by omega, rfl, by rw [HE.out]; exact HM.out, HOK.out⟩, HB9.out, HO9.out⟩
         case measure => simp [intOf]; omega
       ·have hi0 : ¬ ((i : Int) < 0) := by omega
        have HOK := Lib.hid hok
        have HNO := Lib.hid hno
        clear hok hno
        cases M with
        | true =>
         go_wp2
         go_roundw
         case rel => exact ⟨k + 1, i, by omega, by go_num, rfl, by rw [HLN.out], .inr ⟨i, by omega, rfl, HNO.out, HOK.out⟩, HB9.out, HO9.out⟩
         case measure => simp [intOf]; omega
        | false =>
         go_wp2
         go_roundw
         case rel => exact ⟨k + 1, i, by omega, by go_num, rfl, by rw [HLN.out], .inr ⟨i, by omega, rfl, HNO.out, HOK.out⟩, HB9.out, HO9.out⟩
         case measure => simp [intOf]; omega
      ·obtain rfl : n1 = k := by omega
       have hnn : ¬ (n1 : Int) < n1 := by omega
       have htk : es1.take n1 = es1 := List.take_of_length_le (by rw [HL1.out]; exact Nat.le_refl _)
       have how := HOW.out
       rw [htk] at how
       rw [htk]
       obtain ⟨_, A5, c5, rfl, _, hr5⟩ := rdeo_of_own how
       have HSC := Lib.hid (script_any A5 n1 c5 es1 wr (HT.out.below HBR.out) hr5 HL1.out (by omega))
       clear how htk hr5 HOW hk hlt
       rcases HST.out with ⟨rfl, hok⟩ | ⟨i, hi, rfl, hno, hok⟩
       ·have HOK := Lib.hid hok
        clear hok
        go_wp2_with fail
        refine HSC.out.mono ?_
        rintro e w12 ⟨hsc, hb12⟩
        have HB12 := Lib.hid (HBR.out.trans (hb12.mono HBR.out.size))
        have HRD := Lib.hid (reads_true A2 n2 c2 bs w12 (HT.out.below HB12.out) (Nat.le_trans HG.out HB12.out.size) (HR2.out.below HB12.out) HL2.out (by omega))
        rcases hsc with ⟨_, v, rfl, hown⟩ | ⟨i, b, h1, h2, h3, _⟩
        ·obtain ⟨_, A8, c8, rfl, _, _, hr8, _⟩ := rdn_of_own hown
         have hv1 := conv_bI (c := c8) hr8 rfl
         clear hown hr8 hb12 HSC
         go_wp2_with fail
         refine HRD.out.mono ?_
         rintro e w13 ⟨rfl, hb13⟩
         have HB13 := Lib.hid (HB12.out.trans (hb13.mono HB12.out.size))
         clear hb13
         go_wp2
         go_ret
         exact ⟨rfl, HB13.out⟩
        ·exfalso
         dsimp only at h3
         rw [HOK.out i h1] at h3
         cases h3
       ·have hi0 : ¬ ((i : Int) < 0) := by omega
        have HOK := Lib.hid hok
        have HNO := Lib.hid hno
        clear hok hno
        obtain ⟨Y, hY⟩ : ∃ x, bsA (enLn es1) = x := ⟨_, rfl⟩
        rw [hY]
        clear hY
        go_wp2_with fail
        refine HSC.out.mono ?_
        rintro e w12 ⟨hsc, hb12⟩
        have HB12 := Lib.hid (HBR.out.trans (hb12.mono HBR.out.size))
        rcases hsc with ⟨h1, _⟩ | ⟨i', b, h1, h2, h3, rfl, h4, h5⟩
        ·exfalso
         have := h1 i hi
         dsimp only at this
         rw [HNO.out] at this
         cases this
        ·obtain rfl : i' = i := by
          rcases Nat.lt_trichotomy i' i with q | q | q
          ·dsimp only at h3; rw [HOK.out i' q] at h3; cases h3
          ·exact q
          ·have := h2 i q; dsimp only at this; rw [HNO.out] at this; cases this
         have hE5 : entE (es1.getD i' Ent.none) = 5 := by unfold entE; rw [if_neg (by rw [HNO.out]; decide)]
         have HE := Lib.hid (show ErrIs w12 (.iface 97 (.pointer (some ⟨b, 0, none⟩))) 5 (i' : Int) from .inr (.inr ⟨b, rfl, by omega, by omega, h4, by rw [← hE5]; exact h5⟩))
         have HC := Lib.hid (code_err _ 5 i' w12 HE.out)
         have HA := Lib.hid (at_err _ 5 i' w12 HE.out (HT.out.below HB12.out).err)
         clear h1 h2 h3 h4 h5 hb12 HSC hE5
         go_wp2_with fail
         refine HC.out.mono ?_
         rintro e w13 ⟨rfl, rfl⟩
         go_wp2_with fail
         refine HA.out.mono ?_
         rintro e w14 ⟨rfl, hb14⟩
         have HB14 := Lib.hid (HB12.out.trans (hb14.mono HB12.out.size))
         have HRD := Lib.hid (reads_true A2 n2 c2 bs w14 (HT.out.below HB14.out) (Nat.le_trans HG.out HB14.out.size) (HR2.out.below HB14.out) HL2.out (by omega))
         clear hb14 HA HC HE
         go_wp2_with fail
         refine HRD.out.mono ?_
         rintro e w15 ⟨rfl, hb15⟩
         have HB15 := Lib.hid (HB14.out.trans (hb15.mono HB14.out.size))
         clear hb15
         go_wp2
         go_ret
         exact ⟨rfl, HB15.out⟩
end Go.Proofs.YtjpjlfjaapfnkaaGreatDoor

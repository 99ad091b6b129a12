/-
  The document's ParseEvent. No conditions beyond those that each theorem states.
-/
import Derived.Test.YtjpjlfjaapfnkaaGreatDoorDMQ
import Derived.Test.YtjpjlfjaapfnkaaGreatDoorDMP
import Derived.Test.YtjpjlfjaapfnkaaGreatDoorDMC
set_option linter.unusedVariables false
set_option linter.unusedSimpArgs false
namespace Go.Proofs.YtjpjlfjaapfnkaaGreatDoor
open Go.ChangeShapes Go.WideShapes Go.ChangeAt Go.RowKit
open C20 (Ev formB evC)
def EvDIs (e : Ending) : Option Ev → Prop
 | some x => e = .returned (.tuple #[.agg (evC x), .bool true])
 | none => e = .returned (.tuple #[.agg #[.int .i64 0, .int .i64 0, .int .i64 0, .int .i64 0, .int .i64 0, .int .i64 0, .int .i64 0], .bool false])
theorem hit_iff (E : Ev) (L : List UInt8) : (evE E = 0 ∧ evS E = L) ↔ (evOk E = true ∧ evT E = L) := by
 constructor
 ·rintro ⟨h1, h2⟩
  by_cases h : evOk E = true
  ·exact ⟨h, by rw [← h2]; exact (if_pos h).symm⟩
  ·rcases evE_no h with q | q <;> omega
 ·rintro ⟨h1, h2⟩
  exact ⟨evE_ok h1, by rw [← h2]; exact if_pos h1⟩
set_option maxRecDepth 100000 in
set_option maxHeartbeats 4000000 in
theorem rparse_event (s : ByteArray) (W : World) (hs : s.size ≤ 1000000) :
 Calls Tryz.prog 19 #[.string s] W fun e w' => EvDIs e (evD s.data.toList) ∧ Below W.heap.size W w' := by
 have hb0 : Below W.heap.size W (W.alloc (.cells #[.int .i64 0, .int .i64 0, .int .i64 0, .int .i64 0, .int .i64 0, .int .i64 0, .int .i64 0] 44)) := (Below.refl _ _).alloc (Nat.le_refl _) _
 have HSP := Lib.hid (rsplit_any s 32 (W.alloc (.cells #[.int .i64 0, .int .i64 0, .int .i64 0, .int .i64 0, .int .i64 0, .int .i64 0, .int .i64 0] 44)) hs)
 obtain ⟨w0, r, hws⟩ : ∃ w0 r, spL 32 s.data.toList = w0 :: r := by
  cases h : spL 32 s.data.toList with
  | nil => exact absurd h (sp_ne _ _)
  | cons a b => exact ⟨a, b, rfl⟩
 have hwl : ∀ w ∈ w0 :: r, w.length ≤ 1000000 := fun w hw => by
  rw [← hws] at hw
  have := sp_word 32 s.data.toList w hw
  have hsz : s.data.toList.length = s.size := rfl
  omega
 have hnl : (w0 :: r).length ≤ 1000001 := by
  have := sp_length 32 s.data.toList
  rw [hws] at this
  have hsz : s.data.toList.length = s.size := rfl
  omega
 rw [hws] at HSP
 have HWS := Lib.hid hws
 have HWL := Lib.hid hwl
 have HNL := Lib.hid hnl
 have HZ := Lib.hid (show Zeros (W.alloc (.cells #[.int .i64 0, .int .i64 0, .int .i64 0, .int .i64 0, .int .i64 0, .int .i64 0, .int .i64 0] 44)) W.heap.size 7 from zeros7 W 44)
 have HB0 := Lib.hid hb0
 have hwd : ∀ i, (wordR (w0 :: r) i).length ≤ 1000000 := fun i => by
  unfold wordR
  rw [List.getD_eq_getElem?_getD]
  cases h : (w0 :: r)[i]? with
  | none => simp
  | some x => exact hwl x (List.mem_of_getElem? h)
 have HWD := Lib.hid hwd
 clear hws hwl hnl hb0 hwd
 go_enter Tryz.func19, Tryz.ntmps19
 go_wp2_with fail
 refine HSP.out.mono ?_
 rintro e w1 ⟨⟨v, rfl, hown⟩, hb1⟩
 obtain ⟨hl, A, cp, rfl, hcp, hrd⟩ := rds_of_own hown
 obtain ⟨n, hn⟩ : ∃ n, (w0 :: r).length = n := ⟨_, rfl⟩
 have HRD := Lib.hid hrd
 have HB1 := Lib.hid (HB0.out.trans (hb1.mono HB0.out.size))
 have HZ1 := Lib.hid (HZ.out.below hb1 (by simp))
 have HS1 := Lib.hid (show W.heap.size < w1.heap.size from Nat.lt_of_lt_of_le (by simp) hb1.size)
 rw [hn]
 have hn1 : 1 ≤ n := by rw [← hn]; simp
 have hnb : n ≤ 1000001 := by rw [← hn]; exact HNL.out
 have HN := Lib.hid hn
 clear hl hcp hrd hown hb1 hn HZ HB0 HSP
 have hbn : Below w1.heap.size w1 (w1.alloc (.cells evNames 9)) := (Below.refl _ _).alloc (Nat.le_refl _) _
 obtain ⟨w2, hw2⟩ : ∃ X, w1.alloc (.cells evNames 9) = X := ⟨_, rfl⟩
 rw [hw2] at hbn
 have HRD2 := Lib.hid (HRD.out.below hbn)
 have HWA := Lib.hid (fun i (hi : i ≤ 10) => word_any A n cp i (w0 :: r) w2 HRD2.out HN.out (by omega) hi)
 have HA := Lib.hid (fun i => rnum_any (bsA (wordR (w0 :: r) i)) w2 (by rw [bs_size]; have := HWD.out i; unfold maxLen; omega))
 have HRP := Lib.hid (rparse_any (bsA (wordR (w0 :: r) 2)) w2 (by rw [bs_size]; exact HWD.out 2))
 have HB2 := Lib.hid (HB1.out.trans (hbn.mono HB1.out.size))
 have HZ2 := Lib.hid (HZ1.out.below hbn HS1.out)
 have HS2 := Lib.hid (Nat.lt_of_lt_of_le HS1.out hbn.size)
 have HNB := Lib.hid (show w1.heap.size < w2.heap.size from by rw [← hw2]; simp)
 have HNM := Lib.hid (show ∀ k, k < 8 → w2.cell? ⟨w1.heap.size, 0 + k, none⟩ = some (.string (bsA (evName (k + 1)))) from fun k hk => by
  rw [← hw2, Nat.zero_add]
  match k with
  | 0 => simp [evNames]; rfl
  | 1 => simp [evNames]; rfl
  | 2 => simp [evNames]; rfl
  | 3 => simp [evNames]; rfl
  | 4 => simp [evNames]; rfl
  | 5 => simp [evNames]; rfl
  | 6 => simp [evNames]; rfl
  | 7 => simp [evNames]; rfl
  | k + 8 => omega)
 clear HRD hbn HZ1 HB1
 unfold evNames at hw2
 have HW2 := Lib.hid hw2
 clear hw2
 go_wp2_with fail
 rw [HW2.out]
 refine (HWA.out 1 (by omega)).mono ?_
 rintro e w' ⟨rfl, rfl⟩
 go_wp2_with fail
 refine (HA.out 1).mono ?_
 rintro e w' ⟨rfl, rfl⟩
 go_wp2_with fail
 refine (HWA.out 2 (by omega)).mono ?_
 rintro e w' ⟨rfl, rfl⟩
 go_wp2_with fail
 refine (HA.out 2).mono ?_
 rintro e w' ⟨rfl, rfl⟩
 go_wp2_with fail
 refine (HWA.out 2 (by omega)).mono ?_
 rintro e w' ⟨rfl, rfl⟩
 go_wp2_with fail
 refine HRP.out.mono ?_
 rintro e w3 ⟨hE, hb3⟩
 rw [bsA_list] at hE
 obtain ⟨xa, xb, rfl⟩ := refis hE
 clear hE
 rw [bsA_list, bsA_list]
 obtain ⟨a1, ha1⟩ : ∃ x, numR (wordR (w0 :: r) 1) = x := ⟨_, rfl⟩
 obtain ⟨a2, ha2⟩ : ∃ x, numR (wordR (w0 :: r) 2) = x := ⟨_, rfl⟩
 obtain ⟨⟨p, q⟩, hpq⟩ : ∃ x, resR (wordR (w0 :: r) 2) = x := ⟨_, rfl⟩
 rw [ha1, ha2, hpq]
 have HA1 := Lib.hid ha1
 have HA2 := Lib.hid ha2
 have HPQ := Lib.hid hpq
 have hb4 : Below w3.heap.size w3 (w3.alloc (.cells #[.int .i64 (p : Int), .int .i64 (q : Int)] 23)) := (Below.refl _ _).alloc (Nat.le_refl _) _
 have hb24 := hb3.trans (hb4.mono hb3.size)
 have HS3 := Lib.hid hb3.size
 have HRD4 := Lib.hid (HRD2.out.below hb24)
 have HB4 := Lib.hid (HB2.out.trans (hb24.mono HB2.out.size))
 have HZ4 := Lib.hid (HZ2.out.below hb24 HS2.out)
 have HS4 := Lib.hid (Nat.lt_of_lt_of_le HS2.out hb24.size)
 have HNM4 := Lib.hid (show ∀ k, k < 8 → (w3.alloc (.cells #[.int .i64 (p : Int), .int .i64 (q : Int)] 23)).cell? ⟨w1.heap.size, k, none⟩ = some (.string (bsA (evName (k + 1)))) from fun k hk => by
  have := HNM.out k hk
  rw [Nat.zero_add] at this
  exact cell_keep hb24 this)
 have hp0 : (w3.alloc (.cells #[.int .i64 (p : Int), .int .i64 (q : Int)] 23)).cell? ⟨w3.heap.size, 0, none⟩ = some (.int .i64 p) := by simp
 have hp1 : (w3.alloc (.cells #[.int .i64 (p : Int), .int .i64 (q : Int)] 23)).cell? ⟨w3.heap.size, 1, none⟩ = some (.int .i64 q) := by simp
 have HPC := Lib.hid (And.intro hp0 hp1)
 clear ha1 ha2 hpq hb3 hb4 hb24 HWA HA HRP HRD2 HNM hp0 hp1 HZ2
 go_wp2_with fail
 obtain ⟨w4, hw4⟩ : ∃ X, w3.alloc (.cells #[.int .i64 (p : Int), .int .i64 (q : Int)] 23) = X := ⟨_, rfl⟩
 rw [hw4] at HRD4 HB4 HZ4 HS4 HNM4 HPC ⊢
 obtain ⟨g8, hg8⟩ : ∃ g, w3.heap.size = g := ⟨_, rfl⟩
 rw [hg8] at HPC ⊢
 obtain ⟨nb, hnb⟩ : ∃ g, w1.heap.size = g := ⟨_, rfl⟩
 rw [hnb] at HNM4 ⊢
 clear hw4 HS3 HW2 hg8 hnb
 go_loopw [11] (fun i wr => ∃ k : Nat, k ≤ 8 ∧ i = .int .i64 k ∧ (∀ j, j < k → evNo w0 = j + 1 → ¬ (evOk (evCand (j + 1) (w0 :: r)) = true ∧ evT (evCand (j + 1) (w0 :: r)) = s.data.toList)) ∧ Below w4.heap.size w4 wr) (fun i _ => 8 - (intOf i).toNat)
 case atStart => exact ⟨0, by omega, rfl, fun j hj => absurd hj (Nat.not_lt_zero _), Below.refl _ _⟩
 case round =>
  obtain ⟨k, hk, rfl, hno, hbr⟩ := hrel
  have HNO := Lib.hid hno
  have HBR := Lib.hid hbr
  clear hno hbr
  by_cases hk8 : k < 8
  rotate_left
  ·have hkk : ¬ (k : Int) < 8 := by omega
   have HEV := Lib.hid (show evD s.data.toList = none from by
    unfold evD
    simp only [HWS.out]
    rw [show wordR (w0 :: r) 0 = w0 from rfl]
    by_cases h0 : evNo w0 = 0
    ·rw [if_pos h0]
    ·have h8 := (evNo_is h0).2
     rw [if_neg h0, if_neg]
     have := HNO.out (evNo w0 - 1) (by omega) (by omega)
     rwa [show evNo w0 - 1 + 1 = evNo w0 by omega] at this)
   obtain ⟨⟨r0, z0⟩, ⟨r1, z1⟩, ⟨r2, z2⟩, ⟨r3, z3⟩, ⟨r4, z4⟩, ⟨r5, z5⟩, ⟨r6, z6⟩⟩ := zeros_7 (HZ4.out.below HBR.out HS4.out)
   obtain ⟨q0, q1, q2, q3, q4, q5, q6⟩ := set7 r0 r1 r2 r3 r4 r5 r6 (.int .i64 0) (.int .i64 0) (.int .i64 0) (.int .i64 0) (.int .i64 0) (.int .i64 0) (.int .i64 0)
   go_wp2
   refine bodyPost_ret (by simp [results, Tryz.results19, go_sem, q0, q1, q2, q3, q4, q5, q6] <;> rfl) rfl ?_
   rw [HEV.out]
   exact ⟨rfl, (HB4.out.trans (HBR.out.mono HB4.out.size)).trans ((put7_below (w := wr) (Nat.le_refl W.heap.size) (.int .i64 0) (.int .i64 0) (.int .i64 0) (.int .i64 0) (.int .i64 0) (.int .i64 0) (.int .i64 0)))⟩
  have hkk : (k : Int) < 8 := by omega
  have hn0 : (0 : Int) < (n : Int) := by omega
  obtain ⟨gw, ow, hAw, hcw⟩ := HRD4.out.below HBR.out
  obtain ⟨rfl, hgw⟩ := hAw (by simp)
  have c0 := hcw 0 (by simp)
  have cn := cell_keep HBR.out (HNM4.out k hk8)
  rw [Nat.add_zero] at c0
  simp only [List.getD_cons_zero] at c0
  clear hAw hcw
  by_cases hw : w0 = evName (k + 1)
  rotate_left
  ·have hne : ((bsA w0).toList == (bsA (evName (k + 1))).toList) = false := by rw [bs_list, bs_list]; simpa using hw
   have HN2 := Lib.hid (show ∀ j, j < k + 1 → evNo w0 = j + 1 → ¬ (evOk (evCand (j + 1) (w0 :: r)) = true ∧ evT (evCand (j + 1) (w0 :: r)) = s.data.toList) from fun j hj he => by
    rcases Nat.lt_or_ge j k with x | x
    ·exact HNO.out j x he
    ·obtain rfl : j = k := by omega
     exact absurd (by have := (evNo_is (w := w0) (by omega)).1; rw [he] at this; exact this.symm) hw)
   clear hw
   go_wp2_with fail
   go_quiet (fail)
   go_wp2
   go_roundw
   case rel => exact ⟨k + 1, by omega, by go_num, HN2.out, below_drewN HBR.out _⟩
   case measure => simp [intOf]; omega
  ·have hne : ((bsA w0).toList == (bsA (evName (k + 1))).toList) = true := by rw [hw]; simp
   have hke : evNo w0 = k + 1 := by rw [hw]; exact evNo_name _ (by omega) (by omega)
   have HNX := Lib.hid (show Hid (¬ (evE (evCand (k + 1) (w0 :: r)) = 0 ∧ evS (evCand (k + 1) (w0 :: r)) = s.data.toList)) → ∀ j, j < k + 1 → evNo w0 = j + 1 → ¬ (evOk (evCand (j + 1) (w0 :: r)) = true ∧ evT (evCand (j + 1) (w0 :: r)) = s.data.toList) from fun hx j hj he => by
    obtain rfl : j = k := by omega
    exact fun z => hx.out ((hit_iff _ _).2 z))
   have HYX := Lib.hid (show (evOk (evCand (k + 1) (w0 :: r)) = true ∧ evT (evCand (k + 1) (w0 :: r)) = s.data.toList) → evD s.data.toList = some (evCand (k + 1) (w0 :: r)) from fun z => by
    unfold evD
    simp only [HWS.out]
    rw [show wordR (w0 :: r) 0 = w0 from rfl, hke, if_neg (by omega), if_pos z])
   obtain ⟨v3, hv3⟩ : ∃ v, numR (wordR (w0 :: r) 3) = v := ⟨_, rfl⟩
   have HV3 := Lib.hid hv3
   obtain ⟨m3, hm3⟩ : ∃ v, modeT (wordR (w0 :: r) 3) = v := ⟨_, rfl⟩
   have HM3 := Lib.hid hm3
   clear hw hke hv3 hm3
   have hkc : k = 0 ∨ k = 1 ∨ k = 2 ∨ k = 3 ∨ k = 4 ∨ k = 5 ∨ k = 6 ∨ k = 7 := by omega
   rcases hkc with hkj | hkj | hkj | hkj | hkj | hkj | hkj | hkj
   ·skip
    have t0 : ((k : Int) == 0) = true := by rw [hkj]; rfl
    have t1 : ((k : Int) == 1) = false := by rw [hkj]; rfl
    have t2 : ((k : Int) == 2) = false := by rw [hkj]; rfl
    have t3 : ((k : Int) == 3) = false := by rw [hkj]; rfl
    have t6 : ((k : Int) == 6) = false := by rw [hkj]; rfl
    have t7 : ((k : Int) == 7) = false := by rw [hkj]; rfl
    have hcd : evCand (k + 1) (w0 :: r) = ⟨(k : Int) + 1, a2, a1, 0, 0, 0, 0⟩ := by
     subst hkj
     unfold evCand
     simp only [HA1.out, HA2.out, HPQ.out, HV3.out, HM3.out]
     rfl
    rw [hcd] at HNX HYX
    have HEV := Lib.hid (fun X => revent_any ⟨(k : Int) + 1, a2, a1, 0, 0, 0, 0⟩ X)
    unfold evC at HEV
    simp only at HEV
    clear hcd hkj
    go_wp2_with fail
    go_quiet (fail)
    generalize hwz : World.drewN wr nq = wz
    have HBZ := Lib.hid (show Below w4.heap.size w4 wz from by rw [← hwz]; exact below_drewN HBR.out _)
    clear hwz c0 cn
    have HX := Lib.hid (show (wz.alloc (.cells #[.int .i64 ((k : Int) + 1), .int .i64 a2, .int .i64 a1, .int .i64 0, .int .i64 0, .int .i64 0, .int .i64 0] 44)).cell? ⟨wz.heap.size, 0, none⟩ = some (.int .i64 ((k : Int) + 1)) ∧ (wz.alloc (.cells #[.int .i64 ((k : Int) + 1), .int .i64 a2, .int .i64 a1, .int .i64 0, .int .i64 0, .int .i64 0, .int .i64 0] 44)).cell? ⟨wz.heap.size, 1, none⟩ = some (.int .i64 a2) ∧ (wz.alloc (.cells #[.int .i64 ((k : Int) + 1), .int .i64 a2, .int .i64 a1, .int .i64 0, .int .i64 0, .int .i64 0, .int .i64 0] 44)).cell? ⟨wz.heap.size, 2, none⟩ = some (.int .i64 a1) ∧ (wz.alloc (.cells #[.int .i64 ((k : Int) + 1), .int .i64 a2, .int .i64 a1, .int .i64 0, .int .i64 0, .int .i64 0, .int .i64 0] 44)).cell? ⟨wz.heap.size, 3, none⟩ = some (.int .i64 0) ∧ (wz.alloc (.cells #[.int .i64 ((k : Int) + 1), .int .i64 a2, .int .i64 a1, .int .i64 0, .int .i64 0, .int .i64 0, .int .i64 0] 44)).cell? ⟨wz.heap.size, 4, none⟩ = some (.int .i64 0) ∧ (wz.alloc (.cells #[.int .i64 ((k : Int) + 1), .int .i64 a2, .int .i64 a1, .int .i64 0, .int .i64 0, .int .i64 0, .int .i64 0] 44)).cell? ⟨wz.heap.size, 5, none⟩ = some (.int .i64 0) ∧ (wz.alloc (.cells #[.int .i64 ((k : Int) + 1), .int .i64 a2, .int .i64 a1, .int .i64 0, .int .i64 0, .int .i64 0, .int .i64 0] 44)).cell? ⟨wz.heap.size, 6, none⟩ = some (.int .i64 0) from by simp)
    have HBX := Lib.hid (HBZ.out.alloc HBZ.out.size (.cells #[.int .i64 ((k : Int) + 1), .int .i64 a2, .int .i64 a1, .int .i64 0, .int .i64 0, .int .i64 0, .int .i64 0] 44))
    go_wp2_with fail
    refine (HEV.out _).mono ?_
    rintro e w6 ⟨rfl, hb6⟩
    have HB6 := Lib.hid (HBX.out.trans (hb6.mono HBX.out.size))
    obtain ⟨x0, x1, x2, x3, x4, x5, x6⟩ := HX.out
    have x0 := cell_keep hb6 x0
    have x1 := cell_keep hb6 x1
    have x2 := cell_keep hb6 x2
    have x3 := cell_keep hb6 x3
    have x4 := cell_keep hb6 x4
    have x5 := cell_keep hb6 x5
    have x6 := cell_keep hb6 x6
    clear hb6
    obtain ⟨C, hC⟩ : ∃ C, evE ⟨(k : Int) + 1, a2, a1, 0, 0, 0, 0⟩ = C := ⟨_, rfl⟩
    obtain ⟨T, hT⟩ : ∃ T, evS ⟨(k : Int) + 1, a2, a1, 0, 0, 0, 0⟩ = T := ⟨_, rfl⟩
    have HH := Lib.hid (hit_iff ⟨(k : Int) + 1, a2, a1, 0, 0, 0, 0⟩ s.data.toList)
    rw [hC, hT] at HH
    rw [hC, hT] at HNX
    rw [hC, hT]
    clear hC hT
    by_cases h0 : C = 0
    rotate_left
    ·have h0' : (C == 0) = false := by simpa using h0
     have hnh := Lib.hid (show ¬ (C = 0 ∧ T = s.data.toList) from fun z => h0 z.1)
     clear h0
     go_wp2
     go_roundw
     case rel => exact ⟨k + 1, by omega, by go_num, fun j hj he => HNX.out hnh j hj he, HB6.out⟩
     case measure => simp [intOf]; omega
    by_cases h1 : T = s.data.toList
    rotate_left
    ·have h0' : (C == 0) = true := by simpa using h0
     have h1' : ((bsA T).toList == s.toList) = false := bs_ne (fun z => h1 z.symm)
     have hnh := Lib.hid (show ¬ (C = 0 ∧ T = s.data.toList) from fun z => h1 z.2)
     clear h0 h1
     go_wp2
     go_roundw
     case rel => exact ⟨k + 1, by omega, by go_num, fun j hj he => HNX.out hnh j hj he, HB6.out⟩
     case measure => simp [intOf]; omega
    have h0' : (C == 0) = true := by simpa using h0
    have h1' : ((bsA T).toList == s.toList) = true := by rw [bs_list, ba_list, h1]; simp
    have HD := Lib.hid (HYX.out (HH.out.1 ⟨h0, h1⟩))
    clear h0 h1
    obtain ⟨⟨r0, z0⟩, ⟨r1, z1⟩, ⟨r2, z2⟩, ⟨r3, z3⟩, ⟨r4, z4⟩, ⟨r5, z5⟩, ⟨r6, z6⟩⟩ := zeros_7 (HZ4.out.below HB6.out HS4.out)
    obtain ⟨q0, q1, q2, q3, q4, q5, q6⟩ := set7 r0 r1 r2 r3 r4 r5 r6 (.int .i64 ((k : Int) + 1)) (.int .i64 a2) (.int .i64 a1) (.int .i64 0) (.int .i64 0) (.int .i64 0) (.int .i64 0)
    go_wp2
    refine bodyPost_ret (by simp [results, Tryz.results19, go_sem, q0, q1, q2, q3, q4, q5, q6] <;> rfl) rfl ?_
    rw [HD.out]
    exact ⟨rfl, (HB4.out.trans (HB6.out.mono HB4.out.size)).trans ((put7_below (w := w6) (Nat.le_refl W.heap.size) (.int .i64 ((k : Int) + 1)) (.int .i64 a2) (.int .i64 a1) (.int .i64 0) (.int .i64 0) (.int .i64 0) (.int .i64 0)))⟩
   ·skip
    have t0 : ((k : Int) == 0) = false := by rw [hkj]; rfl
    have t1 : ((k : Int) == 1) = true := by rw [hkj]; rfl
    have t2 : ((k : Int) == 2) = false := by rw [hkj]; rfl
    have t3 : ((k : Int) == 3) = false := by rw [hkj]; rfl
    have t6 : ((k : Int) == 6) = false := by rw [hkj]; rfl
    have t7 : ((k : Int) == 7) = false := by rw [hkj]; rfl
    have hcd : evCand (k + 1) (w0 :: r) = ⟨(k : Int) + 1, 0, a1, (p : Int), (q : Int), (m3 : Int), 0⟩ := by
     subst hkj
     unfold evCand
     simp only [HA1.out, HA2.out, HPQ.out, HV3.out, HM3.out]
     rfl
    rw [hcd] at HNX HYX
    have HEV := Lib.hid (fun X => revent_any ⟨(k : Int) + 1, 0, a1, (p : Int), (q : Int), (m3 : Int), 0⟩ X)
    unfold evC at HEV
    simp only at HEV
    clear hcd hkj
    go_wp2_with fail
    go_quiet (fail)
    generalize hwz : World.drewN wr nq = wz
    have HBZ := Lib.hid (show Below w4.heap.size w4 wz from by rw [← hwz]; exact below_drewN HBR.out _)
    clear hwz c0 cn
    have hbP : Below wz.heap.size wz (wz.alloc (.cells #[.int .i64 ((k : Int) + 1), .int .i64 0, .int .i64 a1, .int .i64 0, .int .i64 0, .int .i64 0, .int .i64 0] 44)) := (Below.refl _ _).alloc (Nat.le_refl _) _
    have hbQ : Below wz.heap.size wz (wz.alloc (.cells #[.int .i64 ((k : Int) + 1), .int .i64 0, .int .i64 a1, .int .i64 (p : Int), .int .i64 (q : Int), .int .i64 0, .int .i64 0] 44)) := (Below.refl _ _).alloc (Nat.le_refl _) _
    have pz0 := cell_keep hbP (cell_keep HBZ.out HPC.out.1)
    have pz1 := cell_keep hbP (cell_keep HBZ.out HPC.out.2)
    have HWQ := Lib.hid (word_any (some ⟨gw, ow, none⟩) n cp 3 (w0 :: r) (wz.alloc (.cells #[.int .i64 ((k : Int) + 1), .int .i64 0, .int .i64 a1, .int .i64 (p : Int), .int .i64 (q : Int), .int .i64 0, .int .i64 0] 44)) ((HRD4.out.below HBZ.out).below hbQ) HN.out (by omega) (by omega))
    clear hbP
    go_wp2_with fail
    refine HWQ.out.mono ?_
    rintro e w' ⟨rfl, rfl⟩
    clear pz0 pz1
    have HMQ := Lib.hid (rmode_any (bsA (wordR (w0 :: r) 3)) (wz.alloc (.cells #[.int .i64 ((k : Int) + 1), .int .i64 0, .int .i64 a1, .int .i64 (p : Int), .int .i64 (q : Int), .int .i64 0, .int .i64 0] 44)))
    rw [bsA_list, HM3.out] at HMQ
    go_wp2_with fail
    refine HMQ.out.mono ?_
    rintro e w5 ⟨rfl, hb5⟩
    have y0 := cell_keep hb5 (b := wz.heap.size) (o := 0) (u := .int .i64 ((k : Int) + 1)) (by simp)
    have y1 := cell_keep hb5 (b := wz.heap.size) (o := 1) (u := .int .i64 0) (by simp)
    have y2 := cell_keep hb5 (b := wz.heap.size) (o := 2) (u := .int .i64 a1) (by simp)
    have y3 := cell_keep hb5 (b := wz.heap.size) (o := 3) (u := .int .i64 (p : Int)) (by simp)
    have y4 := cell_keep hb5 (b := wz.heap.size) (o := 4) (u := .int .i64 (q : Int)) (by simp)
    have y5 := cell_keep hb5 (b := wz.heap.size) (o := 5) (u := .int .i64 0) (by simp)
    have y6 := cell_keep hb5 (b := wz.heap.size) (o := 6) (u := .int .i64 0) (by simp)
    have yz := (hb5.frozen (p := ⟨wz.heap.size, 5, none⟩) (by simp)).trans (show (wz.alloc (.cells #[.int .i64 ((k : Int) + 1), .int .i64 0, .int .i64 a1, .int .i64 (p : Int), .int .i64 (q : Int), .int .i64 0, .int .i64 0] 44)).frozen? ⟨wz.heap.size, 5, none⟩ = false from by simp)
    have HX := Lib.hid (And.intro ((World.cell?_setCell_other w5 ⟨wz.heap.size, 5, none⟩ ⟨wz.heap.size, 0, none⟩ (.int .i64 (m3 : Int)) (by simp)).trans y0) (And.intro ((World.cell?_setCell_other w5 ⟨wz.heap.size, 5, none⟩ ⟨wz.heap.size, 1, none⟩ (.int .i64 (m3 : Int)) (by simp)).trans y1) (And.intro ((World.cell?_setCell_other w5 ⟨wz.heap.size, 5, none⟩ ⟨wz.heap.size, 2, none⟩ (.int .i64 (m3 : Int)) (by simp)).trans y2) (And.intro ((World.cell?_setCell_other w5 ⟨wz.heap.size, 5, none⟩ ⟨wz.heap.size, 3, none⟩ (.int .i64 (m3 : Int)) (by simp)).trans y3) (And.intro ((World.cell?_setCell_other w5 ⟨wz.heap.size, 5, none⟩ ⟨wz.heap.size, 4, none⟩ (.int .i64 (m3 : Int)) (by simp)).trans y4) (And.intro (World.cell?_setCell_same w5 ⟨wz.heap.size, 5, none⟩ (.int .i64 (m3 : Int)) y5) ((World.cell?_setCell_other w5 ⟨wz.heap.size, 5, none⟩ ⟨wz.heap.size, 6, none⟩ (.int .i64 (m3 : Int)) (by simp)).trans y6)))))))
    have HBQ := Lib.hid (show Below w4.heap.size w4 (wz.alloc (.cells #[.int .i64 ((k : Int) + 1), .int .i64 0, .int .i64 a1, .int .i64 (p : Int), .int .i64 (q : Int), .int .i64 0, .int .i64 0] 44)) from HBZ.out.alloc HBZ.out.size _)
    have HBX := Lib.hid (Below.setCell (HBQ.out.trans (hb5.mono HBQ.out.size)) (p := ⟨wz.heap.size, 5, none⟩) (show w4.heap.size ≤ wz.heap.size from HBZ.out.size) (.int .i64 (m3 : Int)))
    clear hbQ hb5 HBQ
    obtain ⟨f0, f1, f2, f3, f4, f5, f6⟩ := HX.out
    go_wp2_with fail
    clear f0 f1 f2 f3 f4 f5 f6 y0 y1 y2 y3 y4 y5 y6 yz
    refine (HEV.out _).mono ?_
    rintro e w6 ⟨rfl, hb6⟩
    have HB6 := Lib.hid (HBX.out.trans (hb6.mono HBX.out.size))
    obtain ⟨x0, x1, x2, x3, x4, x5, x6⟩ := HX.out
    have x0 := cell_keep hb6 x0
    have x1 := cell_keep hb6 x1
    have x2 := cell_keep hb6 x2
    have x3 := cell_keep hb6 x3
    have x4 := cell_keep hb6 x4
    have x5 := cell_keep hb6 x5
    have x6 := cell_keep hb6 x6
    clear hb6
    obtain ⟨C, hC⟩ : ∃ C, evE ⟨(k : Int) + 1, 0, a1, (p : Int), (q : Int), (m3 : Int), 0⟩ = C := ⟨_, rfl⟩
    obtain ⟨T, hT⟩ : ∃ T, evS ⟨(k : Int) + 1, 0, a1, (p : Int), (q : Int), (m3 : Int), 0⟩ = T := ⟨_, rfl⟩
    have HH := Lib.hid (hit_iff ⟨(k : Int) + 1, 0, a1, (p : Int), (q : Int), (m3 : Int), 0⟩ s.data.toList)
    rw [hC, hT] at HH
    rw [hC, hT] at HNX
    rw [hC, hT]
    clear hC hT
    by_cases h0 : C = 0
    rotate_left
    ·have h0' : (C == 0) = false := by simpa using h0
     have hnh := Lib.hid (show ¬ (C = 0 ∧ T = s.data.toList) from fun z => h0 z.1)
     clear h0
     go_wp2
     go_roundw
     case rel => exact ⟨k + 1, by omega, by go_num, fun j hj he => HNX.out hnh j hj he, HB6.out⟩
     case measure => simp [intOf]; omega
    by_cases h1 : T = s.data.toList
    rotate_left
    ·have h0' : (C == 0) = true := by simpa using h0
     have h1' : ((bsA T).toList == s.toList) = false := bs_ne (fun z => h1 z.symm)
     have hnh := Lib.hid (show ¬ (C = 0 ∧ T = s.data.toList) from fun z => h1 z.2)
     clear h0 h1
     go_wp2
     go_roundw
     case rel => exact ⟨k + 1, by omega, by go_num, fun j hj he => HNX.out hnh j hj he, HB6.out⟩
     case measure => simp [intOf]; omega
    have h0' : (C == 0) = true := by simpa using h0
    have h1' : ((bsA T).toList == s.toList) = true := by rw [bs_list, ba_list, h1]; simp
    have HD := Lib.hid (HYX.out (HH.out.1 ⟨h0, h1⟩))
    clear h0 h1
    obtain ⟨⟨r0, z0⟩, ⟨r1, z1⟩, ⟨r2, z2⟩, ⟨r3, z3⟩, ⟨r4, z4⟩, ⟨r5, z5⟩, ⟨r6, z6⟩⟩ := zeros_7 (HZ4.out.below HB6.out HS4.out)
    obtain ⟨q0, q1, q2, q3, q4, q5, q6⟩ := set7 r0 r1 r2 r3 r4 r5 r6 (.int .i64 ((k : Int) + 1)) (.int .i64 0) (.int .i64 a1) (.int .i64 (p : Int)) (.int .i64 (q : Int)) (.int .i64 (m3 : Int)) (.int .i64 0)
    go_wp2
    refine bodyPost_ret (by simp [results, Tryz.results19, go_sem, q0, q1, q2, q3, q4, q5, q6] <;> rfl) rfl ?_
    rw [HD.out]
    exact ⟨rfl, (HB4.out.trans (HB6.out.mono HB4.out.size)).trans ((put7_below (w := w6) (Nat.le_refl W.heap.size) (.int .i64 ((k : Int) + 1)) (.int .i64 0) (.int .i64 a1) (.int .i64 (p : Int)) (.int .i64 (q : Int)) (.int .i64 (m3 : Int)) (.int .i64 0)))⟩
   ·skip
    have t0 : ((k : Int) == 0) = false := by rw [hkj]; rfl
    have t1 : ((k : Int) == 1) = false := by rw [hkj]; rfl
    have t2 : ((k : Int) == 2) = true := by rw [hkj]; rfl
    have t3 : ((k : Int) == 3) = false := by rw [hkj]; rfl
    have t6 : ((k : Int) == 6) = false := by rw [hkj]; rfl
    have t7 : ((k : Int) == 7) = false := by rw [hkj]; rfl
    have hcd : evCand (k + 1) (w0 :: r) = ⟨(k : Int) + 1, 0, a1, (p : Int), (q : Int), (m3 : Int), 0⟩ := by
     subst hkj
     unfold evCand
     simp only [HA1.out, HA2.out, HPQ.out, HV3.out, HM3.out]
     rfl
    rw [hcd] at HNX HYX
    have HEV := Lib.hid (fun X => revent_any ⟨(k : Int) + 1, 0, a1, (p : Int), (q : Int), (m3 : Int), 0⟩ X)
    unfold evC at HEV
    simp only at HEV
    clear hcd hkj
    go_wp2_with fail
    go_quiet (fail)
    generalize hwz : World.drewN wr nq = wz
    have HBZ := Lib.hid (show Below w4.heap.size w4 wz from by rw [← hwz]; exact below_drewN HBR.out _)
    clear hwz c0 cn
    have hbP : Below wz.heap.size wz (wz.alloc (.cells #[.int .i64 ((k : Int) + 1), .int .i64 0, .int .i64 a1, .int .i64 0, .int .i64 0, .int .i64 0, .int .i64 0] 44)) := (Below.refl _ _).alloc (Nat.le_refl _) _
    have hbQ : Below wz.heap.size wz (wz.alloc (.cells #[.int .i64 ((k : Int) + 1), .int .i64 0, .int .i64 a1, .int .i64 (p : Int), .int .i64 (q : Int), .int .i64 0, .int .i64 0] 44)) := (Below.refl _ _).alloc (Nat.le_refl _) _
    have pz0 := cell_keep hbP (cell_keep HBZ.out HPC.out.1)
    have pz1 := cell_keep hbP (cell_keep HBZ.out HPC.out.2)
    have HWQ := Lib.hid (word_any (some ⟨gw, ow, none⟩) n cp 3 (w0 :: r) (wz.alloc (.cells #[.int .i64 ((k : Int) + 1), .int .i64 0, .int .i64 a1, .int .i64 (p : Int), .int .i64 (q : Int), .int .i64 0, .int .i64 0] 44)) ((HRD4.out.below HBZ.out).below hbQ) HN.out (by omega) (by omega))
    clear hbP
    go_wp2_with fail
    refine HWQ.out.mono ?_
    rintro e w' ⟨rfl, rfl⟩
    clear pz0 pz1
    have HMQ := Lib.hid (rmode_any (bsA (wordR (w0 :: r) 3)) (wz.alloc (.cells #[.int .i64 ((k : Int) + 1), .int .i64 0, .int .i64 a1, .int .i64 (p : Int), .int .i64 (q : Int), .int .i64 0, .int .i64 0] 44)))
    rw [bsA_list, HM3.out] at HMQ
    go_wp2_with fail
    refine HMQ.out.mono ?_
    rintro e w5 ⟨rfl, hb5⟩
    have y0 := cell_keep hb5 (b := wz.heap.size) (o := 0) (u := .int .i64 ((k : Int) + 1)) (by simp)
    have y1 := cell_keep hb5 (b := wz.heap.size) (o := 1) (u := .int .i64 0) (by simp)
    have y2 := cell_keep hb5 (b := wz.heap.size) (o := 2) (u := .int .i64 a1) (by simp)
    have y3 := cell_keep hb5 (b := wz.heap.size) (o := 3) (u := .int .i64 (p : Int)) (by simp)
    have y4 := cell_keep hb5 (b := wz.heap.size) (o := 4) (u := .int .i64 (q : Int)) (by simp)
    have y5 := cell_keep hb5 (b := wz.heap.size) (o := 5) (u := .int .i64 0) (by simp)
    have y6 := cell_keep hb5 (b := wz.heap.size) (o := 6) (u := .int .i64 0) (by simp)
    have yz := (hb5.frozen (p := ⟨wz.heap.size, 5, none⟩) (by simp)).trans (show (wz.alloc (.cells #[.int .i64 ((k : Int) + 1), .int .i64 0, .int .i64 a1, .int .i64 (p : Int), .int .i64 (q : Int), .int .i64 0, .int .i64 0] 44)).frozen? ⟨wz.heap.size, 5, none⟩ = false from by simp)
    have HX := Lib.hid (And.intro ((World.cell?_setCell_other w5 ⟨wz.heap.size, 5, none⟩ ⟨wz.heap.size, 0, none⟩ (.int .i64 (m3 : Int)) (by simp)).trans y0) (And.intro ((World.cell?_setCell_other w5 ⟨wz.heap.size, 5, none⟩ ⟨wz.heap.size, 1, none⟩ (.int .i64 (m3 : Int)) (by simp)).trans y1) (And.intro ((World.cell?_setCell_other w5 ⟨wz.heap.size, 5, none⟩ ⟨wz.heap.size, 2, none⟩ (.int .i64 (m3 : Int)) (by simp)).trans y2) (And.intro ((World.cell?_setCell_other w5 ⟨wz.heap.size, 5, none⟩ ⟨wz.heap.size, 3, none⟩ (.int .i64 (m3 : Int)) (by simp)).trans y3) (And.intro ((World.cell?_setCell_other w5 ⟨wz.heap.size, 5, none⟩ ⟨wz.heap.size, 4, none⟩ (.int .i64 (m3 : Int)) (by simp)).trans y4) (And.intro (World.cell?_setCell_same w5 ⟨wz.heap.size, 5, none⟩ (.int .i64 (m3 : Int)) y5) ((World.cell?_setCell_other w5 ⟨wz.heap.size, 5, none⟩ ⟨wz.heap.size, 6, none⟩ (.int .i64 (m3 : Int)) (by simp)).trans y6)))))))
    have HBQ := Lib.hid (show Below w4.heap.size w4 (wz.alloc (.cells #[.int .i64 ((k : Int) + 1), .int .i64 0, .int .i64 a1, .int .i64 (p : Int), .int .i64 (q : Int), .int .i64 0, .int .i64 0] 44)) from HBZ.out.alloc HBZ.out.size _)
    have HBX := Lib.hid (Below.setCell (HBQ.out.trans (hb5.mono HBQ.out.size)) (p := ⟨wz.heap.size, 5, none⟩) (show w4.heap.size ≤ wz.heap.size from HBZ.out.size) (.int .i64 (m3 : Int)))
    clear hbQ hb5 HBQ
    obtain ⟨f0, f1, f2, f3, f4, f5, f6⟩ := HX.out
    go_wp2_with fail
    clear f0 f1 f2 f3 f4 f5 f6 y0 y1 y2 y3 y4 y5 y6 yz
    refine (HEV.out _).mono ?_
    rintro e w6 ⟨rfl, hb6⟩
    have HB6 := Lib.hid (HBX.out.trans (hb6.mono HBX.out.size))
    obtain ⟨x0, x1, x2, x3, x4, x5, x6⟩ := HX.out
    have x0 := cell_keep hb6 x0
    have x1 := cell_keep hb6 x1
    have x2 := cell_keep hb6 x2
    have x3 := cell_keep hb6 x3
    have x4 := cell_keep hb6 x4
    have x5 := cell_keep hb6 x5
    have x6 := cell_keep hb6 x6
    clear hb6
    obtain ⟨C, hC⟩ : ∃ C, evE ⟨(k : Int) + 1, 0, a1, (p : Int), (q : Int), (m3 : Int), 0⟩ = C := ⟨_, rfl⟩
    obtain ⟨T, hT⟩ : ∃ T, evS ⟨(k : Int) + 1, 0, a1, (p : Int), (q : Int), (m3 : Int), 0⟩ = T := ⟨_, rfl⟩
    have HH := Lib.hid (hit_iff ⟨(k : Int) + 1, 0, a1, (p : Int), (q : Int), (m3 : Int), 0⟩ s.data.toList)
    rw [hC, hT] at HH
    rw [hC, hT] at HNX
    rw [hC, hT]
    clear hC hT
    by_cases h0 : C = 0
    rotate_left
    ·have h0' : (C == 0) = false := by simpa using h0
     have hnh := Lib.hid (show ¬ (C = 0 ∧ T = s.data.toList) from fun z => h0 z.1)
     clear h0
     go_wp2
     go_roundw
     case rel => exact ⟨k + 1, by omega, by go_num, fun j hj he => HNX.out hnh j hj he, HB6.out⟩
     case measure => simp [intOf]; omega
    by_cases h1 : T = s.data.toList
    rotate_left
    ·have h0' : (C == 0) = true := by simpa using h0
     have h1' : ((bsA T).toList == s.toList) = false := bs_ne (fun z => h1 z.symm)
     have hnh := Lib.hid (show ¬ (C = 0 ∧ T = s.data.toList) from fun z => h1 z.2)
     clear h0 h1
     go_wp2
     go_roundw
     case rel => exact ⟨k + 1, by omega, by go_num, fun j hj he => HNX.out hnh j hj he, HB6.out⟩
     case measure => simp [intOf]; omega
    have h0' : (C == 0) = true := by simpa using h0
    have h1' : ((bsA T).toList == s.toList) = true := by rw [bs_list, ba_list, h1]; simp
    have HD := Lib.hid (HYX.out (HH.out.1 ⟨h0, h1⟩))
    clear h0 h1
    obtain ⟨⟨r0, z0⟩, ⟨r1, z1⟩, ⟨r2, z2⟩, ⟨r3, z3⟩, ⟨r4, z4⟩, ⟨r5, z5⟩, ⟨r6, z6⟩⟩ := zeros_7 (HZ4.out.below HB6.out HS4.out)
    obtain ⟨q0, q1, q2, q3, q4, q5, q6⟩ := set7 r0 r1 r2 r3 r4 r5 r6 (.int .i64 ((k : Int) + 1)) (.int .i64 0) (.int .i64 a1) (.int .i64 (p : Int)) (.int .i64 (q : Int)) (.int .i64 (m3 : Int)) (.int .i64 0)
    go_wp2
    refine bodyPost_ret (by simp [results, Tryz.results19, go_sem, q0, q1, q2, q3, q4, q5, q6] <;> rfl) rfl ?_
    rw [HD.out]
    exact ⟨rfl, (HB4.out.trans (HB6.out.mono HB4.out.size)).trans ((put7_below (w := w6) (Nat.le_refl W.heap.size) (.int .i64 ((k : Int) + 1)) (.int .i64 0) (.int .i64 a1) (.int .i64 (p : Int)) (.int .i64 (q : Int)) (.int .i64 (m3 : Int)) (.int .i64 0)))⟩
   ·skip
    have t0 : ((k : Int) == 0) = false := by rw [hkj]; rfl
    have t1 : ((k : Int) == 1) = false := by rw [hkj]; rfl
    have t2 : ((k : Int) == 2) = false := by rw [hkj]; rfl
    have t3 : ((k : Int) == 3) = true := by rw [hkj]; rfl
    have t6 : ((k : Int) == 6) = false := by rw [hkj]; rfl
    have t7 : ((k : Int) == 7) = false := by rw [hkj]; rfl
    have hcd : evCand (k + 1) (w0 :: r) = ⟨(k : Int) + 1, 0, a1, (p : Int), (q : Int), 0, v3⟩ := by
     subst hkj
     unfold evCand
     simp only [HA1.out, HA2.out, HPQ.out, HV3.out, HM3.out]
     rfl
    rw [hcd] at HNX HYX
    have HEV := Lib.hid (fun X => revent_any ⟨(k : Int) + 1, 0, a1, (p : Int), (q : Int), 0, v3⟩ X)
    unfold evC at HEV
    simp only at HEV
    clear hcd hkj
    go_wp2_with fail
    go_quiet (fail)
    generalize hwz : World.drewN wr nq = wz
    have HBZ := Lib.hid (show Below w4.heap.size w4 wz from by rw [← hwz]; exact below_drewN HBR.out _)
    clear hwz c0 cn
    have hbP : Below wz.heap.size wz (wz.alloc (.cells #[.int .i64 ((k : Int) + 1), .int .i64 0, .int .i64 a1, .int .i64 0, .int .i64 0, .int .i64 0, .int .i64 0] 44)) := (Below.refl _ _).alloc (Nat.le_refl _) _
    have hbQ : Below wz.heap.size wz (wz.alloc (.cells #[.int .i64 ((k : Int) + 1), .int .i64 0, .int .i64 a1, .int .i64 (p : Int), .int .i64 (q : Int), .int .i64 0, .int .i64 0] 44)) := (Below.refl _ _).alloc (Nat.le_refl _) _
    have pz0 := cell_keep hbP (cell_keep HBZ.out HPC.out.1)
    have pz1 := cell_keep hbP (cell_keep HBZ.out HPC.out.2)
    have HWQ := Lib.hid (word_any (some ⟨gw, ow, none⟩) n cp 3 (w0 :: r) (wz.alloc (.cells #[.int .i64 ((k : Int) + 1), .int .i64 0, .int .i64 a1, .int .i64 (p : Int), .int .i64 (q : Int), .int .i64 0, .int .i64 0] 44)) ((HRD4.out.below HBZ.out).below hbQ) HN.out (by omega) (by omega))
    clear hbP
    go_wp2_with fail
    refine HWQ.out.mono ?_
    rintro e w' ⟨rfl, rfl⟩
    clear pz0 pz1
    have HNQ := Lib.hid (rnum_any (bsA (wordR (w0 :: r) 3)) (wz.alloc (.cells #[.int .i64 ((k : Int) + 1), .int .i64 0, .int .i64 a1, .int .i64 (p : Int), .int .i64 (q : Int), .int .i64 0, .int .i64 0] 44)) (by rw [bs_size]; have := HWD.out 3; unfold maxLen; omega))
    rw [bsA_list, HV3.out] at HNQ
    go_wp2_with fail
    refine HNQ.out.mono ?_
    rintro e w' ⟨rfl, rfl⟩
    have HX := Lib.hid (show (wz.alloc (.cells #[.int .i64 ((k : Int) + 1), .int .i64 0, .int .i64 a1, .int .i64 (p : Int), .int .i64 (q : Int), .int .i64 0, .int .i64 v3] 44)).cell? ⟨wz.heap.size, 0, none⟩ = some (.int .i64 ((k : Int) + 1)) ∧ (wz.alloc (.cells #[.int .i64 ((k : Int) + 1), .int .i64 0, .int .i64 a1, .int .i64 (p : Int), .int .i64 (q : Int), .int .i64 0, .int .i64 v3] 44)).cell? ⟨wz.heap.size, 1, none⟩ = some (.int .i64 0) ∧ (wz.alloc (.cells #[.int .i64 ((k : Int) + 1), .int .i64 0, .int .i64 a1, .int .i64 (p : Int), .int .i64 (q : Int), .int .i64 0, .int .i64 v3] 44)).cell? ⟨wz.heap.size, 2, none⟩ = some (.int .i64 a1) ∧ (wz.alloc (.cells #[.int .i64 ((k : Int) + 1), .int .i64 0, .int .i64 a1, .int .i64 (p : Int), .int .i64 (q : Int), .int .i64 0, .int .i64 v3] 44)).cell? ⟨wz.heap.size, 3, none⟩ = some (.int .i64 (p : Int)) ∧ (wz.alloc (.cells #[.int .i64 ((k : Int) + 1), .int .i64 0, .int .i64 a1, .int .i64 (p : Int), .int .i64 (q : Int), .int .i64 0, .int .i64 v3] 44)).cell? ⟨wz.heap.size, 4, none⟩ = some (.int .i64 (q : Int)) ∧ (wz.alloc (.cells #[.int .i64 ((k : Int) + 1), .int .i64 0, .int .i64 a1, .int .i64 (p : Int), .int .i64 (q : Int), .int .i64 0, .int .i64 v3] 44)).cell? ⟨wz.heap.size, 5, none⟩ = some (.int .i64 0) ∧ (wz.alloc (.cells #[.int .i64 ((k : Int) + 1), .int .i64 0, .int .i64 a1, .int .i64 (p : Int), .int .i64 (q : Int), .int .i64 0, .int .i64 v3] 44)).cell? ⟨wz.heap.size, 6, none⟩ = some (.int .i64 v3) from by simp)
    have HBX := Lib.hid (show Below w4.heap.size w4 (wz.alloc (.cells #[.int .i64 ((k : Int) + 1), .int .i64 0, .int .i64 a1, .int .i64 (p : Int), .int .i64 (q : Int), .int .i64 0, .int .i64 v3] 44)) from HBZ.out.alloc HBZ.out.size _)
    clear hbQ
    go_wp2_with fail
    refine (HEV.out _).mono ?_
    rintro e w6 ⟨rfl, hb6⟩
    have HB6 := Lib.hid (HBX.out.trans (hb6.mono HBX.out.size))
    obtain ⟨x0, x1, x2, x3, x4, x5, x6⟩ := HX.out
    have x0 := cell_keep hb6 x0
    have x1 := cell_keep hb6 x1
    have x2 := cell_keep hb6 x2
    have x3 := cell_keep hb6 x3
    have x4 := cell_keep hb6 x4
    have x5 := cell_keep hb6 x5
    have x6 := cell_keep hb6 x6
    clear hb6
    obtain ⟨C, hC⟩ : ∃ C, evE ⟨(k : Int) + 1, 0, a1, (p : Int), (q : Int), 0, v3⟩ = C := ⟨_, rfl⟩
    obtain ⟨T, hT⟩ : ∃ T, evS ⟨(k : Int) + 1, 0, a1, (p : Int), (q : Int), 0, v3⟩ = T := ⟨_, rfl⟩
    have HH := Lib.hid (hit_iff ⟨(k : Int) + 1, 0, a1, (p : Int), (q : Int), 0, v3⟩ s.data.toList)
    rw [hC, hT] at HH
    rw [hC, hT] at HNX
    rw [hC, hT]
    clear hC hT
    by_cases h0 : C = 0
    rotate_left
    ·have h0' : (C == 0) = false := by simpa using h0
     have hnh := Lib.hid (show ¬ (C = 0 ∧ T = s.data.toList) from fun z => h0 z.1)
     clear h0
     go_wp2
     go_roundw
     case rel => exact ⟨k + 1, by omega, by go_num, fun j hj he => HNX.out hnh j hj he, HB6.out⟩
     case measure => simp [intOf]; omega
    by_cases h1 : T = s.data.toList
    rotate_left
    ·have h0' : (C == 0) = true := by simpa using h0
     have h1' : ((bsA T).toList == s.toList) = false := bs_ne (fun z => h1 z.symm)
     have hnh := Lib.hid (show ¬ (C = 0 ∧ T = s.data.toList) from fun z => h1 z.2)
     clear h0 h1
     go_wp2
     go_roundw
     case rel => exact ⟨k + 1, by omega, by go_num, fun j hj he => HNX.out hnh j hj he, HB6.out⟩
     case measure => simp [intOf]; omega
    have h0' : (C == 0) = true := by simpa using h0
    have h1' : ((bsA T).toList == s.toList) = true := by rw [bs_list, ba_list, h1]; simp
    have HD := Lib.hid (HYX.out (HH.out.1 ⟨h0, h1⟩))
    clear h0 h1
    obtain ⟨⟨r0, z0⟩, ⟨r1, z1⟩, ⟨r2, z2⟩, ⟨r3, z3⟩, ⟨r4, z4⟩, ⟨r5, z5⟩, ⟨r6, z6⟩⟩ := zeros_7 (HZ4.out.below HB6.out HS4.out)
    obtain ⟨q0, q1, q2, q3, q4, q5, q6⟩ := set7 r0 r1 r2 r3 r4 r5 r6 (.int .i64 ((k : Int) + 1)) (.int .i64 0) (.int .i64 a1) (.int .i64 (p : Int)) (.int .i64 (q : Int)) (.int .i64 0) (.int .i64 v3)
    go_wp2
    refine bodyPost_ret (by simp [results, Tryz.results19, go_sem, q0, q1, q2, q3, q4, q5, q6] <;> rfl) rfl ?_
    rw [HD.out]
    exact ⟨rfl, (HB4.out.trans (HB6.out.mono HB4.out.size)).trans ((put7_below (w := w6) (Nat.le_refl W.heap.size) (.int .i64 ((k : Int) + 1)) (.int .i64 0) (.int .i64 a1) (.int .i64 (p : Int)) (.int .i64 (q : Int)) (.int .i64 0) (.int .i64 v3)))⟩
   ·skip
    have t0 : ((k : Int) == 0) = false := by rw [hkj]; rfl
    have t1 : ((k : Int) == 1) = false := by rw [hkj]; rfl
    have t2 : ((k : Int) == 2) = false := by rw [hkj]; rfl
    have t3 : ((k : Int) == 3) = false := by rw [hkj]; rfl
    have t6 : ((k : Int) == 6) = false := by rw [hkj]; rfl
    have t7 : ((k : Int) == 7) = false := by rw [hkj]; rfl
    have hcd : evCand (k + 1) (w0 :: r) = ⟨(k : Int) + 1, 0, a1, 0, 0, 0, 0⟩ := by
     subst hkj
     unfold evCand
     simp only [HA1.out, HA2.out, HPQ.out, HV3.out, HM3.out]
     rfl
    rw [hcd] at HNX HYX
    have HEV := Lib.hid (fun X => revent_any ⟨(k : Int) + 1, 0, a1, 0, 0, 0, 0⟩ X)
    unfold evC at HEV
    simp only at HEV
    clear hcd hkj
    go_wp2_with fail
    go_quiet (fail)
    generalize hwz : World.drewN wr nq = wz
    have HBZ := Lib.hid (show Below w4.heap.size w4 wz from by rw [← hwz]; exact below_drewN HBR.out _)
    clear hwz c0 cn
    have HX := Lib.hid (show (wz.alloc (.cells #[.int .i64 ((k : Int) + 1), .int .i64 0, .int .i64 a1, .int .i64 0, .int .i64 0, .int .i64 0, .int .i64 0] 44)).cell? ⟨wz.heap.size, 0, none⟩ = some (.int .i64 ((k : Int) + 1)) ∧ (wz.alloc (.cells #[.int .i64 ((k : Int) + 1), .int .i64 0, .int .i64 a1, .int .i64 0, .int .i64 0, .int .i64 0, .int .i64 0] 44)).cell? ⟨wz.heap.size, 1, none⟩ = some (.int .i64 0) ∧ (wz.alloc (.cells #[.int .i64 ((k : Int) + 1), .int .i64 0, .int .i64 a1, .int .i64 0, .int .i64 0, .int .i64 0, .int .i64 0] 44)).cell? ⟨wz.heap.size, 2, none⟩ = some (.int .i64 a1) ∧ (wz.alloc (.cells #[.int .i64 ((k : Int) + 1), .int .i64 0, .int .i64 a1, .int .i64 0, .int .i64 0, .int .i64 0, .int .i64 0] 44)).cell? ⟨wz.heap.size, 3, none⟩ = some (.int .i64 0) ∧ (wz.alloc (.cells #[.int .i64 ((k : Int) + 1), .int .i64 0, .int .i64 a1, .int .i64 0, .int .i64 0, .int .i64 0, .int .i64 0] 44)).cell? ⟨wz.heap.size, 4, none⟩ = some (.int .i64 0) ∧ (wz.alloc (.cells #[.int .i64 ((k : Int) + 1), .int .i64 0, .int .i64 a1, .int .i64 0, .int .i64 0, .int .i64 0, .int .i64 0] 44)).cell? ⟨wz.heap.size, 5, none⟩ = some (.int .i64 0) ∧ (wz.alloc (.cells #[.int .i64 ((k : Int) + 1), .int .i64 0, .int .i64 a1, .int .i64 0, .int .i64 0, .int .i64 0, .int .i64 0] 44)).cell? ⟨wz.heap.size, 6, none⟩ = some (.int .i64 0) from by simp)
    have HBX := Lib.hid (HBZ.out.alloc HBZ.out.size (.cells #[.int .i64 ((k : Int) + 1), .int .i64 0, .int .i64 a1, .int .i64 0, .int .i64 0, .int .i64 0, .int .i64 0] 44))
    go_wp2_with fail
    refine (HEV.out _).mono ?_
    rintro e w6 ⟨rfl, hb6⟩
    have HB6 := Lib.hid (HBX.out.trans (hb6.mono HBX.out.size))
    obtain ⟨x0, x1, x2, x3, x4, x5, x6⟩ := HX.out
    have x0 := cell_keep hb6 x0
    have x1 := cell_keep hb6 x1
    have x2 := cell_keep hb6 x2
    have x3 := cell_keep hb6 x3
    have x4 := cell_keep hb6 x4
    have x5 := cell_keep hb6 x5
    have x6 := cell_keep hb6 x6
    clear hb6
    obtain ⟨C, hC⟩ : ∃ C, evE ⟨(k : Int) + 1, 0, a1, 0, 0, 0, 0⟩ = C := ⟨_, rfl⟩
    obtain ⟨T, hT⟩ : ∃ T, evS ⟨(k : Int) + 1, 0, a1, 0, 0, 0, 0⟩ = T := ⟨_, rfl⟩
    have HH := Lib.hid (hit_iff ⟨(k : Int) + 1, 0, a1, 0, 0, 0, 0⟩ s.data.toList)
    rw [hC, hT] at HH
    rw [hC, hT] at HNX
    rw [hC, hT]
    clear hC hT
    by_cases h0 : C = 0
    rotate_left
    ·have h0' : (C == 0) = false := by simpa using h0
     have hnh := Lib.hid (show ¬ (C = 0 ∧ T = s.data.toList) from fun z => h0 z.1)
     clear h0
     go_wp2
     go_roundw
     case rel => exact ⟨k + 1, by omega, by go_num, fun j hj he => HNX.out hnh j hj he, HB6.out⟩
     case measure => simp [intOf]; omega
    by_cases h1 : T = s.data.toList
    rotate_left
    ·have h0' : (C == 0) = true := by simpa using h0
     have h1' : ((bsA T).toList == s.toList) = false := bs_ne (fun z => h1 z.symm)
     have hnh := Lib.hid (show ¬ (C = 0 ∧ T = s.data.toList) from fun z => h1 z.2)
     clear h0 h1
     go_wp2
     go_roundw
     case rel => exact ⟨k + 1, by omega, by go_num, fun j hj he => HNX.out hnh j hj he, HB6.out⟩
     case measure => simp [intOf]; omega
    have h0' : (C == 0) = true := by simpa using h0
    have h1' : ((bsA T).toList == s.toList) = true := by rw [bs_list, ba_list, h1]; simp
    have HD := Lib.hid (HYX.out (HH.out.1 ⟨h0, h1⟩))
    clear h0 h1
    obtain ⟨⟨r0, z0⟩, ⟨r1, z1⟩, ⟨r2, z2⟩, ⟨r3, z3⟩, ⟨r4, z4⟩, ⟨r5, z5⟩, ⟨r6, z6⟩⟩ := zeros_7 (HZ4.out.below HB6.out HS4.out)
    obtain ⟨q0, q1, q2, q3, q4, q5, q6⟩ := set7 r0 r1 r2 r3 r4 r5 r6 (.int .i64 ((k : Int) + 1)) (.int .i64 0) (.int .i64 a1) (.int .i64 0) (.int .i64 0) (.int .i64 0) (.int .i64 0)
    go_wp2
    refine bodyPost_ret (by simp [results, Tryz.results19, go_sem, q0, q1, q2, q3, q4, q5, q6] <;> rfl) rfl ?_
    rw [HD.out]
    exact ⟨rfl, (HB4.out.trans (HB6.out.mono HB4.out.size)).trans ((put7_below (w := w6) (Nat.le_refl W.heap.size) (.int .i64 ((k : Int) + 1)) (.int .i64 0) (.int .i64 a1) (.int .i64 0) (.int .i64 0) (.int .i64 0) (.int .i64 0)))⟩
   ·skip
    have t0 : ((k : Int) == 0) = false := by rw [hkj]; rfl
    have t1 : ((k : Int) == 1) = false := by rw [hkj]; rfl
    have t2 : ((k : Int) == 2) = false := by rw [hkj]; rfl
    have t3 : ((k : Int) == 3) = false := by rw [hkj]; rfl
    have t6 : ((k : Int) == 6) = false := by rw [hkj]; rfl
    have t7 : ((k : Int) == 7) = false := by rw [hkj]; rfl
    have hcd : evCand (k + 1) (w0 :: r) = ⟨(k : Int) + 1, 0, a1, 0, 0, 0, 0⟩ := by
     subst hkj
     unfold evCand
     simp only [HA1.out, HA2.out, HPQ.out, HV3.out, HM3.out]
     rfl
    rw [hcd] at HNX HYX
    have HEV := Lib.hid (fun X => revent_any ⟨(k : Int) + 1, 0, a1, 0, 0, 0, 0⟩ X)
    unfold evC at HEV
    simp only at HEV
    clear hcd hkj
    go_wp2_with fail
    go_quiet (fail)
    generalize hwz : World.drewN wr nq = wz
    have HBZ := Lib.hid (show Below w4.heap.size w4 wz from by rw [← hwz]; exact below_drewN HBR.out _)
    clear hwz c0 cn
    have HX := Lib.hid (show (wz.alloc (.cells #[.int .i64 ((k : Int) + 1), .int .i64 0, .int .i64 a1, .int .i64 0, .int .i64 0, .int .i64 0, .int .i64 0] 44)).cell? ⟨wz.heap.size, 0, none⟩ = some (.int .i64 ((k : Int) + 1)) ∧ (wz.alloc (.cells #[.int .i64 ((k : Int) + 1), .int .i64 0, .int .i64 a1, .int .i64 0, .int .i64 0, .int .i64 0, .int .i64 0] 44)).cell? ⟨wz.heap.size, 1, none⟩ = some (.int .i64 0) ∧ (wz.alloc (.cells #[.int .i64 ((k : Int) + 1), .int .i64 0, .int .i64 a1, .int .i64 0, .int .i64 0, .int .i64 0, .int .i64 0] 44)).cell? ⟨wz.heap.size, 2, none⟩ = some (.int .i64 a1) ∧ (wz.alloc (.cells #[.int .i64 ((k : Int) + 1), .int .i64 0, .int .i64 a1, .int .i64 0, .int .i64 0, .int .i64 0, .int .i64 0] 44)).cell? ⟨wz.heap.size, 3, none⟩ = some (.int .i64 0) ∧ (wz.alloc (.cells #[.int .i64 ((k : Int) + 1), .int .i64 0, .int .i64 a1, .int .i64 0, .int .i64 0, .int .i64 0, .int .i64 0] 44)).cell? ⟨wz.heap.size, 4, none⟩ = some (.int .i64 0) ∧ (wz.alloc (.cells #[.int .i64 ((k : Int) + 1), .int .i64 0, .int .i64 a1, .int .i64 0, .int .i64 0, .int .i64 0, .int .i64 0] 44)).cell? ⟨wz.heap.size, 5, none⟩ = some (.int .i64 0) ∧ (wz.alloc (.cells #[.int .i64 ((k : Int) + 1), .int .i64 0, .int .i64 a1, .int .i64 0, .int .i64 0, .int .i64 0, .int .i64 0] 44)).cell? ⟨wz.heap.size, 6, none⟩ = some (.int .i64 0) from by simp)
    have HBX := Lib.hid (HBZ.out.alloc HBZ.out.size (.cells #[.int .i64 ((k : Int) + 1), .int .i64 0, .int .i64 a1, .int .i64 0, .int .i64 0, .int .i64 0, .int .i64 0] 44))
    go_wp2_with fail
    refine (HEV.out _).mono ?_
    rintro e w6 ⟨rfl, hb6⟩
    have HB6 := Lib.hid (HBX.out.trans (hb6.mono HBX.out.size))
    obtain ⟨x0, x1, x2, x3, x4, x5, x6⟩ := HX.out
    have x0 := cell_keep hb6 x0
    have x1 := cell_keep hb6 x1
    have x2 := cell_keep hb6 x2
    have x3 := cell_keep hb6 x3
    have x4 := cell_keep hb6 x4
    have x5 := cell_keep hb6 x5
    have x6 := cell_keep hb6 x6
    clear hb6
    obtain ⟨C, hC⟩ : ∃ C, evE ⟨(k : Int) + 1, 0, a1, 0, 0, 0, 0⟩ = C := ⟨_, rfl⟩
    obtain ⟨T, hT⟩ : ∃ T, evS ⟨(k : Int) + 1, 0, a1, 0, 0, 0, 0⟩ = T := ⟨_, rfl⟩
    have HH := Lib.hid (hit_iff ⟨(k : Int) + 1, 0, a1, 0, 0, 0, 0⟩ s.data.toList)
    rw [hC, hT] at HH
    rw [hC, hT] at HNX
    rw [hC, hT]
    clear hC hT
    by_cases h0 : C = 0
    rotate_left
    ·have h0' : (C == 0) = false := by simpa using h0
     have hnh := Lib.hid (show ¬ (C = 0 ∧ T = s.data.toList) from fun z => h0 z.1)
     clear h0
     go_wp2
     go_roundw
     case rel => exact ⟨k + 1, by omega, by go_num, fun j hj he => HNX.out hnh j hj he, HB6.out⟩
     case measure => simp [intOf]; omega
    by_cases h1 : T = s.data.toList
    rotate_left
    ·have h0' : (C == 0) = true := by simpa using h0
     have h1' : ((bsA T).toList == s.toList) = false := bs_ne (fun z => h1 z.symm)
     have hnh := Lib.hid (show ¬ (C = 0 ∧ T = s.data.toList) from fun z => h1 z.2)
     clear h0 h1
     go_wp2
     go_roundw
     case rel => exact ⟨k + 1, by omega, by go_num, fun j hj he => HNX.out hnh j hj he, HB6.out⟩
     case measure => simp [intOf]; omega
    have h0' : (C == 0) = true := by simpa using h0
    have h1' : ((bsA T).toList == s.toList) = true := by rw [bs_list, ba_list, h1]; simp
    have HD := Lib.hid (HYX.out (HH.out.1 ⟨h0, h1⟩))
    clear h0 h1
    obtain ⟨⟨r0, z0⟩, ⟨r1, z1⟩, ⟨r2, z2⟩, ⟨r3, z3⟩, ⟨r4, z4⟩, ⟨r5, z5⟩, ⟨r6, z6⟩⟩ := zeros_7 (HZ4.out.below HB6.out HS4.out)
    obtain ⟨q0, q1, q2, q3, q4, q5, q6⟩ := set7 r0 r1 r2 r3 r4 r5 r6 (.int .i64 ((k : Int) + 1)) (.int .i64 0) (.int .i64 a1) (.int .i64 0) (.int .i64 0) (.int .i64 0) (.int .i64 0)
    go_wp2
    refine bodyPost_ret (by simp [results, Tryz.results19, go_sem, q0, q1, q2, q3, q4, q5, q6] <;> rfl) rfl ?_
    rw [HD.out]
    exact ⟨rfl, (HB4.out.trans (HB6.out.mono HB4.out.size)).trans ((put7_below (w := w6) (Nat.le_refl W.heap.size) (.int .i64 ((k : Int) + 1)) (.int .i64 0) (.int .i64 a1) (.int .i64 0) (.int .i64 0) (.int .i64 0) (.int .i64 0)))⟩
   ·skip
    have t0 : ((k : Int) == 0) = false := by rw [hkj]; rfl
    have t1 : ((k : Int) == 1) = false := by rw [hkj]; rfl
    have t2 : ((k : Int) == 2) = false := by rw [hkj]; rfl
    have t3 : ((k : Int) == 3) = false := by rw [hkj]; rfl
    have t6 : ((k : Int) == 6) = true := by rw [hkj]; rfl
    have t7 : ((k : Int) == 7) = false := by rw [hkj]; rfl
    have hcd : evCand (k + 1) (w0 :: r) = ⟨(k : Int) + 1, 0, a1, 0, 0, 0, a2⟩ := by
     subst hkj
     unfold evCand
     simp only [HA1.out, HA2.out, HPQ.out, HV3.out, HM3.out]
     rfl
    rw [hcd] at HNX HYX
    have HEV := Lib.hid (fun X => revent_any ⟨(k : Int) + 1, 0, a1, 0, 0, 0, a2⟩ X)
    unfold evC at HEV
    simp only at HEV
    clear hcd hkj
    go_wp2_with fail
    go_quiet (fail)
    generalize hwz : World.drewN wr nq = wz
    have HBZ := Lib.hid (show Below w4.heap.size w4 wz from by rw [← hwz]; exact below_drewN HBR.out _)
    clear hwz c0 cn
    have HX := Lib.hid (show (wz.alloc (.cells #[.int .i64 ((k : Int) + 1), .int .i64 0, .int .i64 a1, .int .i64 0, .int .i64 0, .int .i64 0, .int .i64 a2] 44)).cell? ⟨wz.heap.size, 0, none⟩ = some (.int .i64 ((k : Int) + 1)) ∧ (wz.alloc (.cells #[.int .i64 ((k : Int) + 1), .int .i64 0, .int .i64 a1, .int .i64 0, .int .i64 0, .int .i64 0, .int .i64 a2] 44)).cell? ⟨wz.heap.size, 1, none⟩ = some (.int .i64 0) ∧ (wz.alloc (.cells #[.int .i64 ((k : Int) + 1), .int .i64 0, .int .i64 a1, .int .i64 0, .int .i64 0, .int .i64 0, .int .i64 a2] 44)).cell? ⟨wz.heap.size, 2, none⟩ = some (.int .i64 a1) ∧ (wz.alloc (.cells #[.int .i64 ((k : Int) + 1), .int .i64 0, .int .i64 a1, .int .i64 0, .int .i64 0, .int .i64 0, .int .i64 a2] 44)).cell? ⟨wz.heap.size, 3, none⟩ = some (.int .i64 0) ∧ (wz.alloc (.cells #[.int .i64 ((k : Int) + 1), .int .i64 0, .int .i64 a1, .int .i64 0, .int .i64 0, .int .i64 0, .int .i64 a2] 44)).cell? ⟨wz.heap.size, 4, none⟩ = some (.int .i64 0) ∧ (wz.alloc (.cells #[.int .i64 ((k : Int) + 1), .int .i64 0, .int .i64 a1, .int .i64 0, .int .i64 0, .int .i64 0, .int .i64 a2] 44)).cell? ⟨wz.heap.size, 5, none⟩ = some (.int .i64 0) ∧ (wz.alloc (.cells #[.int .i64 ((k : Int) + 1), .int .i64 0, .int .i64 a1, .int .i64 0, .int .i64 0, .int .i64 0, .int .i64 a2] 44)).cell? ⟨wz.heap.size, 6, none⟩ = some (.int .i64 a2) from by simp)
    have HBX := Lib.hid (HBZ.out.alloc HBZ.out.size (.cells #[.int .i64 ((k : Int) + 1), .int .i64 0, .int .i64 a1, .int .i64 0, .int .i64 0, .int .i64 0, .int .i64 a2] 44))
    go_wp2_with fail
    refine (HEV.out _).mono ?_
    rintro e w6 ⟨rfl, hb6⟩
    have HB6 := Lib.hid (HBX.out.trans (hb6.mono HBX.out.size))
    obtain ⟨x0, x1, x2, x3, x4, x5, x6⟩ := HX.out
    have x0 := cell_keep hb6 x0
    have x1 := cell_keep hb6 x1
    have x2 := cell_keep hb6 x2
    have x3 := cell_keep hb6 x3
    have x4 := cell_keep hb6 x4
    have x5 := cell_keep hb6 x5
    have x6 := cell_keep hb6 x6
    clear hb6
    obtain ⟨C, hC⟩ : ∃ C, evE ⟨(k : Int) + 1, 0, a1, 0, 0, 0, a2⟩ = C := ⟨_, rfl⟩
    obtain ⟨T, hT⟩ : ∃ T, evS ⟨(k : Int) + 1, 0, a1, 0, 0, 0, a2⟩ = T := ⟨_, rfl⟩
    have HH := Lib.hid (hit_iff ⟨(k : Int) + 1, 0, a1, 0, 0, 0, a2⟩ s.data.toList)
    rw [hC, hT] at HH
    rw [hC, hT] at HNX
    rw [hC, hT]
    clear hC hT
    by_cases h0 : C = 0
    rotate_left
    ·have h0' : (C == 0) = false := by simpa using h0
     have hnh := Lib.hid (show ¬ (C = 0 ∧ T = s.data.toList) from fun z => h0 z.1)
     clear h0
     go_wp2
     go_roundw
     case rel => exact ⟨k + 1, by omega, by go_num, fun j hj he => HNX.out hnh j hj he, HB6.out⟩
     case measure => simp [intOf]; omega
    by_cases h1 : T = s.data.toList
    rotate_left
    ·have h0' : (C == 0) = true := by simpa using h0
     have h1' : ((bsA T).toList == s.toList) = false := bs_ne (fun z => h1 z.symm)
     have hnh := Lib.hid (show ¬ (C = 0 ∧ T = s.data.toList) from fun z => h1 z.2)
     clear h0 h1
     go_wp2
     go_roundw
     case rel => exact ⟨k + 1, by omega, by go_num, fun j hj he => HNX.out hnh j hj he, HB6.out⟩
     case measure => simp [intOf]; omega
    have h0' : (C == 0) = true := by simpa using h0
    have h1' : ((bsA T).toList == s.toList) = true := by rw [bs_list, ba_list, h1]; simp
    have HD := Lib.hid (HYX.out (HH.out.1 ⟨h0, h1⟩))
    clear h0 h1
    obtain ⟨⟨r0, z0⟩, ⟨r1, z1⟩, ⟨r2, z2⟩, ⟨r3, z3⟩, ⟨r4, z4⟩, ⟨r5, z5⟩, ⟨r6, z6⟩⟩ := zeros_7 (HZ4.out.below HB6.out HS4.out)
    obtain ⟨q0, q1, q2, q3, q4, q5, q6⟩ := set7 r0 r1 r2 r3 r4 r5 r6 (.int .i64 ((k : Int) + 1)) (.int .i64 0) (.int .i64 a1) (.int .i64 0) (.int .i64 0) (.int .i64 0) (.int .i64 a2)
    go_wp2
    refine bodyPost_ret (by simp [results, Tryz.results19, go_sem, q0, q1, q2, q3, q4, q5, q6] <;> rfl) rfl ?_
    rw [HD.out]
    exact ⟨rfl, (HB4.out.trans (HB6.out.mono HB4.out.size)).trans ((put7_below (w := w6) (Nat.le_refl W.heap.size) (.int .i64 ((k : Int) + 1)) (.int .i64 0) (.int .i64 a1) (.int .i64 0) (.int .i64 0) (.int .i64 0) (.int .i64 a2)))⟩
   ·skip
    have t0 : ((k : Int) == 0) = false := by rw [hkj]; rfl
    have t1 : ((k : Int) == 1) = false := by rw [hkj]; rfl
    have t2 : ((k : Int) == 2) = false := by rw [hkj]; rfl
    have t3 : ((k : Int) == 3) = false := by rw [hkj]; rfl
    have t6 : ((k : Int) == 6) = false := by rw [hkj]; rfl
    have t7 : ((k : Int) == 7) = true := by rw [hkj]; rfl
    have hcd : evCand (k + 1) (w0 :: r) = ⟨(k : Int) + 1, a1, 0, 0, 0, 0, 0⟩ := by
     subst hkj
     unfold evCand
     simp only [HA1.out, HA2.out, HPQ.out, HV3.out, HM3.out]
     rfl
    rw [hcd] at HNX HYX
    have HEV := Lib.hid (fun X => revent_any ⟨(k : Int) + 1, a1, 0, 0, 0, 0, 0⟩ X)
    unfold evC at HEV
    simp only at HEV
    clear hcd hkj
    go_wp2_with fail
    go_quiet (fail)
    generalize hwz : World.drewN wr nq = wz
    have HBZ := Lib.hid (show Below w4.heap.size w4 wz from by rw [← hwz]; exact below_drewN HBR.out _)
    clear hwz c0 cn
    have HX := Lib.hid (show (wz.alloc (.cells #[.int .i64 ((k : Int) + 1), .int .i64 a1, .int .i64 0, .int .i64 0, .int .i64 0, .int .i64 0, .int .i64 0] 44)).cell? ⟨wz.heap.size, 0, none⟩ = some (.int .i64 ((k : Int) + 1)) ∧ (wz.alloc (.cells #[.int .i64 ((k : Int) + 1), .int .i64 a1, .int .i64 0, .int .i64 0, .int .i64 0, .int .i64 0, .int .i64 0] 44)).cell? ⟨wz.heap.size, 1, none⟩ = some (.int .i64 a1) ∧ (wz.alloc (.cells #[.int .i64 ((k : Int) + 1), .int .i64 a1, .int .i64 0, .int .i64 0, .int .i64 0, .int .i64 0, .int .i64 0] 44)).cell? ⟨wz.heap.size, 2, none⟩ = some (.int .i64 0) ∧ (wz.alloc (.cells #[.int .i64 ((k : Int) + 1), .int .i64 a1, .int .i64 0, .int .i64 0, .int .i64 0, .int .i64 0, .int .i64 0] 44)).cell? ⟨wz.heap.size, 3, none⟩ = some (.int .i64 0) ∧ (wz.alloc (.cells #[.int .i64 ((k : Int) + 1), .int .i64 a1, .int .i64 0, .int .i64 0, .int .i64 0, .int .i64 0, .int .i64 0] 44)).cell? ⟨wz.heap.size, 4, none⟩ = some (.int .i64 0) ∧ (wz.alloc (.cells #[.int .i64 ((k : Int) + 1), .int .i64 a1, .int .i64 0, .int .i64 0, .int .i64 0, .int .i64 0, .int .i64 0] 44)).cell? ⟨wz.heap.size, 5, none⟩ = some (.int .i64 0) ∧ (wz.alloc (.cells #[.int .i64 ((k : Int) + 1), .int .i64 a1, .int .i64 0, .int .i64 0, .int .i64 0, .int .i64 0, .int .i64 0] 44)).cell? ⟨wz.heap.size, 6, none⟩ = some (.int .i64 0) from by simp)
    have HBX := Lib.hid (HBZ.out.alloc HBZ.out.size (.cells #[.int .i64 ((k : Int) + 1), .int .i64 a1, .int .i64 0, .int .i64 0, .int .i64 0, .int .i64 0, .int .i64 0] 44))
    go_wp2_with fail
    refine (HEV.out _).mono ?_
    rintro e w6 ⟨rfl, hb6⟩
    have HB6 := Lib.hid (HBX.out.trans (hb6.mono HBX.out.size))
    obtain ⟨x0, x1, x2, x3, x4, x5, x6⟩ := HX.out
    have x0 := cell_keep hb6 x0
    have x1 := cell_keep hb6 x1
    have x2 := cell_keep hb6 x2
    have x3 := cell_keep hb6 x3
    have x4 := cell_keep hb6 x4
    have x5 := cell_keep hb6 x5
    have x6 := cell_keep hb6 x6
    clear hb6
    obtain ⟨C, hC⟩ : ∃ C, evE ⟨(k : Int) + 1, a1, 0, 0, 0, 0, 0⟩ = C := ⟨_, rfl⟩
    obtain ⟨T, hT⟩ : ∃ T, evS ⟨(k : Int) + 1, a1, 0, 0, 0, 0, 0⟩ = T := ⟨_, rfl⟩
    have HH := Lib.hid (hit_iff ⟨(k : Int) + 1, a1, 0, 0, 0, 0, 0⟩ s.data.toList)
    rw [hC, hT] at HH
    rw [hC, hT] at HNX
    rw [hC, hT]
    clear hC hT
    by_cases h0 : C = 0
    rotate_left
    ·have h0' : (C == 0) = false := by simpa using h0
     have hnh := Lib.hid (show ¬ (C = 0 ∧ T = s.data.toList) from fun z => h0 z.1)
     clear h0
     go_wp2
     go_roundw
     case rel => exact ⟨k + 1, by omega, by go_num, fun j hj he => HNX.out hnh j hj he, HB6.out⟩
     case measure => simp [intOf]; omega
    by_cases h1 : T = s.data.toList
    rotate_left
    ·have h0' : (C == 0) = true := by simpa using h0
     have h1' : ((bsA T).toList == s.toList) = false := bs_ne (fun z => h1 z.symm)
     have hnh := Lib.hid (show ¬ (C = 0 ∧ T = s.data.toList) from fun z => h1 z.2)
     clear h0 h1
     go_wp2
     go_roundw
     case rel => exact ⟨k + 1, by omega, by go_num, fun j hj he => HNX.out hnh j hj he, HB6.out⟩
     case measure => simp [intOf]; omega
    have h0' : (C == 0) = true := by simpa using h0
    have h1' : ((bsA T).toList == s.toList) = true := by rw [bs_list, ba_list, h1]; simp
    have HD := Lib.hid (HYX.out (HH.out.1 ⟨h0, h1⟩))
    clear h0 h1
    obtain ⟨⟨r0, z0⟩, ⟨r1, z1⟩, ⟨r2, z2⟩, ⟨r3, z3⟩, ⟨r4, z4⟩, ⟨r5, z5⟩, ⟨r6, z6⟩⟩ := zeros_7 (HZ4.out.below HB6.out HS4.out)
    obtain ⟨q0, q1, q2, q3, q4, q5, q6⟩ := set7 r0 r1 r2 r3 r4 r5 r6 (.int .i64 ((k : Int) + 1)) (.int .i64 a1) (.int .i64 0) (.int .i64 0) (.int .i64 0) (.int .i64 0) (.int .i64 0)
    go_wp2
    refine bodyPost_ret (by simp [results, Tryz.results19, go_sem, q0, q1, q2, q3, q4, q5, q6] <;> rfl) rfl ?_
    rw [HD.out]
    exact ⟨rfl, (HB4.out.trans (HB6.out.mono HB4.out.size)).trans ((put7_below (w := w6) (Nat.le_refl W.heap.size) (.int .i64 ((k : Int) + 1)) (.int .i64 a1) (.int .i64 0) (.int .i64 0) (.int .i64 0) (.int .i64 0) (.int .i64 0)))⟩
end Go.Proofs.YtjpjlfjaapfnkaaGreatDoor

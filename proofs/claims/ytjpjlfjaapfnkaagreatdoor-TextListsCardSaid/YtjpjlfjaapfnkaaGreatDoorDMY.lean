/-
  The document's ParseEntry. No conditions beyond those that each theorem states.
-/
import Derived.Test.YtjpjlfjaapfnkaaGreatDoorDMX
import Derived.Test.YtjpjlfjaapfnkaaGreatDoorDMO
import Derived.Test.YtjpjlfjaapfnkaaGreatDoorDMC
set_option linter.unusedVariables false
set_option linter.unusedSimpArgs false
namespace Go.Proofs.YtjpjlfjaapfnkaaGreatDoor
open Go.ChangeShapes Go.WideShapes Go.ChangeAt Go.RowKit
def EnDIs (e : Ending) : Option Ent → Prop
 | some x => e = .returned (.tuple #[.agg (entA x), .bool true])
 | none => e = .returned (.tuple #[.agg #[.int .i64 0, .int .i64 0, .int .i64 0, .int .i64 0, .int .i64 0, .int .i64 0], .bool false])
theorem enhit_iff (E : Ent) (L : List UInt8) : (E.may = true ∧ entS E = L) ↔ (E.may = true ∧ entT E = L) := by
 constructor
 ·rintro ⟨h1, h2⟩
  exact ⟨h1, by rw [← h2]; exact (if_pos h1).symm⟩
 ·rintro ⟨h1, h2⟩
  exact ⟨h1, by rw [← h2]; exact if_pos h1⟩
set_option maxRecDepth 100000 in
set_option maxHeartbeats 4000000 in
theorem rparse_entry (s : ByteArray) (W : World) (hs : s.size ≤ 1000000) :
 Calls Tryz.prog 14 #[.string s] W fun e w' => EnDIs e (entD s.data.toList) ∧ Below W.heap.size W w' := by
 have hb0 : Below W.heap.size W (W.alloc (.cells #[.int .i64 0, .int .i64 0, .int .i64 0, .int .i64 0, .int .i64 0, .int .i64 0] 25)) := (Below.refl _ _).alloc (Nat.le_refl _) _
 have HSP := Lib.hid (rsplit_any s 32 (W.alloc (.cells #[.int .i64 0, .int .i64 0, .int .i64 0, .int .i64 0, .int .i64 0, .int .i64 0] 25)) hs)
 obtain ⟨w0, r, hws⟩ : ∃ w0 r, spL 32 s.data.toList = w0 :: r := by
  cases h : spL 32 s.data.toList with
  | nil => exact absurd h (sp_ne _ _)
  | cons a b => exact ⟨a, b, rfl⟩
 have hwl : ∀ w ∈ w0 :: r, w.length ≤ 1000000 := fun w hw => by
  rw [← hws] at hw
  have := sp_word 32 s.data.toList w hw
  have hsz : s.data.toList.length = s.size := rfl
  omega
 have hnl : (w0 :: r).length ≤ 1000001 := by
  have := sp_length 32 s.data.toList
  rw [hws] at this
  have hsz : s.data.toList.length = s.size := rfl
  omega
 rw [hws] at HSP
 have HWS := Lib.hid hws
 have HWL := Lib.hid hwl
 have HNL := Lib.hid hnl
 have HZ := Lib.hid (show Zero6 (W.alloc (.cells #[.int .i64 0, .int .i64 0, .int .i64 0, .int .i64 0, .int .i64 0, .int .i64 0] 25)) W.heap.size from has6_new W 25 0 0 0 0 0 0)
 have HB0 := Lib.hid hb0
 have hwd : ∀ i, (wordR (w0 :: r) i).length ≤ 1000000 := fun i => by
  unfold wordR
  rw [List.getD_eq_getElem?_getD]
  cases h : (w0 :: r)[i]? with
  | none => simp
  | some x => exact hwl x (List.mem_of_getElem? h)
 have HWD := Lib.hid hwd
 clear hws hwl hnl hb0 hwd
 go_enter Tryz.func14, Tryz.ntmps14
 go_wp2_with fail
 refine HSP.out.mono ?_
 rintro e w1 ⟨⟨v, rfl, hown⟩, hb1⟩
 obtain ⟨hl, A, cp, rfl, hcp, hrd⟩ := rds_of_own hown
 obtain ⟨n, hn⟩ : ∃ n, (w0 :: r).length = n := ⟨_, rfl⟩
 have HRD2 := Lib.hid hrd
 have HB2 := Lib.hid (HB0.out.trans (hb1.mono HB0.out.size))
 have HZ2 := Lib.hid (Zero6.below HZ.out hb1 (by simp))
 have HS2 := Lib.hid (show W.heap.size < w1.heap.size from Nat.lt_of_lt_of_le (by simp) hb1.size)
 rw [hn]
 have hn1 : 1 ≤ n := by rw [← hn]; simp
 have hnb : n ≤ 1000001 := by rw [← hn]; exact HNL.out
 have HN := Lib.hid hn
 clear hl hcp hrd hown hb1 hn HZ HB0 HSP
 have HWA := Lib.hid (fun i (hi : i ≤ 10) => word_any A n cp i (w0 :: r) w1 HRD2.out HN.out (by omega) hi)
 have HA := Lib.hid (fun i => rnum_any (bsA (wordR (w0 :: r) i)) w1 (by rw [bs_size]; have := HWD.out i; unfold maxLen; omega))
 have HRP := Lib.hid (rparse_any (bsA (wordR (w0 :: r) 2)) w1 (by rw [bs_size]; exact HWD.out 2))
 go_wp2_with fail
 refine (HWA.out 1 (by omega)).mono ?_
 rintro e w' ⟨rfl, rfl⟩
 go_wp2_with fail
 refine (HA.out 1).mono ?_
 rintro e w' ⟨rfl, rfl⟩
 go_wp2_with fail
 refine (HWA.out 2 (by omega)).mono ?_
 rintro e w' ⟨rfl, rfl⟩
 go_wp2_with fail
 refine HRP.out.mono ?_
 rintro e w3 ⟨hE, hb3⟩
 rw [bsA_list] at hE
 obtain ⟨xa, xb, rfl⟩ := refis hE
 clear hE
 rw [bsA_list]
 obtain ⟨a1, ha1⟩ : ∃ x, numR (wordR (w0 :: r) 1) = x := ⟨_, rfl⟩
 obtain ⟨⟨p, q⟩, hpq⟩ : ∃ x, resR (wordR (w0 :: r) 2) = x := ⟨_, rfl⟩
 rw [ha1, hpq]
 have HA1 := Lib.hid ha1
 have HPQ := Lib.hid hpq
 have hb4 : Below w3.heap.size w3 (w3.alloc (.cells #[.int .i64 (p : Int), .int .i64 (q : Int)] 23)) := (Below.refl _ _).alloc (Nat.le_refl _) _
 have hb24 := hb3.trans (hb4.mono hb3.size)
 have HRD4 := Lib.hid (HRD2.out.below hb24)
 have HB4 := Lib.hid (HB2.out.trans (hb24.mono HB2.out.size))
 have HZ4 := Lib.hid (Zero6.below HZ2.out hb24 HS2.out)
 have HS4 := Lib.hid (Nat.lt_of_lt_of_le HS2.out hb24.size)
 have hp0 : (w3.alloc (.cells #[.int .i64 (p : Int), .int .i64 (q : Int)] 23)).cell? ⟨w3.heap.size, 0, none⟩ = some (.int .i64 p) := by simp
 have hp1 : (w3.alloc (.cells #[.int .i64 (p : Int), .int .i64 (q : Int)] 23)).cell? ⟨w3.heap.size, 1, none⟩ = some (.int .i64 q) := by simp
 have HPC := Lib.hid (And.intro hp0 hp1)
 clear ha1 hpq hb3 hb4 hb24 HWA HA HRP HRD2 hp0 hp1 HZ2
 go_wp2_with fail
 obtain ⟨w4, hw4⟩ : ∃ X, w3.alloc (.cells #[.int .i64 (p : Int), .int .i64 (q : Int)] 23) = X := ⟨_, rfl⟩
 rw [hw4] at HRD4 HB4 HZ4 HS4 HPC ⊢
 obtain ⟨g8, hg8⟩ : ∃ g, w3.heap.size = g := ⟨_, rfl⟩
 rw [hg8] at HPC ⊢
 clear hw4 hg8
 go_loopw [9] (fun i wr => ∃ k : Nat, k ≤ 10 ∧ i = .int .i64 k ∧ (∀ j, j < k → entNo w0 = j → ¬ ((entCand j (w0 :: r)).may = true ∧ entT (entCand j (w0 :: r)) = s.data.toList)) ∧ Below w4.heap.size w4 wr) (fun i _ => 10 - (intOf i).toNat)
 case atStart => exact ⟨0, by omega, rfl, fun j hj => absurd hj (Nat.not_lt_zero _), Below.refl _ _⟩
 case round =>
  obtain ⟨k, hk, rfl, hno, hbr⟩ := hrel
  have HNO := Lib.hid hno
  have HBR := Lib.hid hbr
  clear hno hbr
  by_cases hk8 : k < 10
  rotate_left
  ·have hkk : ¬ (k : Int) < 10 := by omega
   have HEV := Lib.hid (show entD s.data.toList = none from by
    unfold entD
    simp only [HWS.out]
    rw [show wordR (w0 :: r) 0 = w0 from rfl]
    by_cases h0 : entNo w0 = 10
    ·rw [if_pos h0]
    ·have h8 := (entNo_is h0).2
     rw [if_neg h0, if_neg]
     exact HNO.out (entNo w0) (by omega) rfl)
   obtain ⟨⟨r0, z0⟩, ⟨r1, z1⟩, ⟨r2, z2⟩, ⟨r3, z3⟩, ⟨r4, z4⟩, ⟨r5, z5⟩⟩ := HZ4.out.below HBR.out HS4.out
   obtain ⟨q0, q1, q2, q3, q4, q5⟩ := set6 r0 r1 r2 r3 r4 r5 (.int .i64 0) (.int .i64 0) (.int .i64 0) (.int .i64 0) (.int .i64 0) (.int .i64 0)
   go_wp2
   refine bodyPost_ret (by simp [results, Tryz.results14, go_sem, q0, q1, q2, q3, q4, q5] <;> rfl) rfl ?_
   rw [HEV.out]
   exact ⟨rfl, (HB4.out.trans (HBR.out.mono HB4.out.size)).trans ((put6_below (w := wr) (Nat.le_refl W.heap.size) (.int .i64 0) (.int .i64 0) (.int .i64 0) (.int .i64 0) (.int .i64 0) (.int .i64 0)))⟩
  have hkk : (k : Int) < 10 := by omega
  have hn0 : (0 : Int) < (n : Int) := by omega
  have hn0n : 0 < n := by omega
  obtain ⟨gw, ow, hAw, hcw⟩ := HRD4.out.below HBR.out
  obtain ⟨rfl, hgw⟩ := hAw (by simp)
  have c0 := hcw 0 (by simp)
  rw [Nat.add_zero] at c0
  simp only [List.getD_cons_zero] at c0
  clear hAw hcw
  obtain ⟨NN, hNN⟩ : ∃ x, bsA (entName k) = x := ⟨_, rfl⟩
  have HNN := Lib.hid hNN
  have HC0 := Lib.hid c0
  clear hNN
  go_wp2_with fail
  refine wp_region_N (S := (fun w' => w'.cell? ⟨gw, ow, none⟩ = some (.string (bsA w0)))) (fun i => true) (by kernel_rfl) ?_ (fun hHeld => ?_)
  ·(try dsimp only)
   first
    | (with_reducible assumption)
    | (refine cell_keep ?_ c0 <;> (first | exact hbw | exact hbw.drew | (go_grown; done)))
  refine tk (i := 0) (v := ?_) rfl (by kernel_rfl) (fun _ _ _ h => h) (Or.inl ⟨by first | kernel_rfl | rfl, ?_⟩) (by assumption) ?_
  rotate_left
  focus intro w hSw; (try dsimp only at hSw); go_simp; try with_reducible rfl
  try (unfold Act.put; dsimp only)
  refine tk (i := 1) (v := ?_) rfl (by kernel_rfl) (fun _ _ _ h => h) (Or.inl ⟨by first | kernel_rfl | rfl, ?_⟩) (by assumption) ?_
  rotate_left
  focus intro w hSw; (try dsimp only at hSw); go_simp; try with_reducible rfl
  try (unfold Act.put; dsimp only)
  refine tk (i := 2) (v := ?_) rfl (by kernel_rfl) (fun _ _ _ h => h) (Or.inl ⟨by first | kernel_rfl | rfl, ?_⟩) (by assumption) ?_
  rotate_left
  focus intro w hSw; (try dsimp only at hSw); go_simp; try with_reducible rfl
  try (unfold Act.put; dsimp only)
  refine tk (i := 4) (v := ?_) rfl (by kernel_rfl) (fun _ _ _ h => h) (Or.inl ⟨by first | kernel_rfl | rfl, ?_⟩) (by assumption) ?_
  rotate_left
  focus intro w hSw; (try dsimp only at hSw); go_simp; try with_reducible rfl
  try (unfold Act.put; dsimp only)
  refine wpAnyN_ready (rs := [3]) (by kernel_rfl) (by simp) ?_
  refine AllReadyN.cons rfl (fun K hK => ?_) ?_
  ·go_simp
   go_at_call 34
   refine (rnames_at _).mono ?_
   rintro e wz ⟨rfl, hcs, hb5⟩
   have hnc : wz.cell? ⟨wr.heap.size, k, none⟩ = some (.string NN) := by rw [← HNN.out]; exact hcs k (by omega)
   have hbw : Below wr.heap.size wr wz := Below.trans (show Below wr.heap.size wr _ by first | exact Below.refl _ _ | exact (Below.refl _ _).drew) (hb5.mono (by first | exact Nat.le_refl _ | (simp; done)))
   dsimp only
   refine hK.out _ _ ?_ (fun hHeld => ?_)
   ·(try dsimp only)
    first
     | (with_reducible assumption)
     | (refine cell_keep ?_ c0 <;> (first | exact hbw | exact hbw.drew | (go_grown; done)))
   clear hK K
   (try change wpAnyN _ _ _ _ _ _ _ _ (Act.put _ (some 32) _) _)
   try (unfold Act.put; dsimp only)
   refine tk (i := 5) (v := ?_) rfl (by kernel_rfl) (fun _ _ _ h => h) (Or.inl ⟨by first | kernel_rfl | rfl, ?_⟩) (by assumption) ?_
   rotate_left
   focus intro w hSw; (try dsimp only at hSw); go_simp; try with_reducible rfl
   try (unfold Act.put; dsimp only)
   refine wpAnyN_ready (rs := [6]) (by kernel_rfl) (by simp) ?_
   refine AllReadyN.cons rfl (fun K hK => ?_) ?_
   ·go_simp
    refine hK.out _ _ ?_ (fun hHeld => ?_)
    ·(try dsimp only)
     first
      | (with_reducible assumption)
      | (refine cell_keep ?_ c0 <;> (first | exact hbw | exact hbw.drew | (go_grown; done)))
    clear hK K
    (try change wpAnyN _ _ _ _ _ _ _ _ (Act.put _ (some 35) _) _)
    try (unfold Act.put; dsimp only)
    refine tk (i := 7) (v := ?_) rfl (by kernel_rfl) (fun _ _ _ h => h) (Or.inl ⟨by first | kernel_rfl | rfl, ?_⟩) (by assumption) ?_
    rotate_left
    focus intro w hSw; (try dsimp only at hSw); go_simp; try with_reducible rfl
    try (unfold Act.put; dsimp only)
    refine wpAnyN_done (by kernel_rfl) ?_ _
    have HBZ := Lib.hid (show Below w4.heap.size w4 wz from HBR.out.trans (hbw.mono HBR.out.size))
    clear hbw hnc hcs hb5 c0
    by_cases hw : w0 = entName k
    rotate_left
    ·have hne : ((bsA w0).toList == NN.toList) = false := by rw [← HNN.out, bs_list, bs_list]; simpa using hw
     have hneb : (!((bsA w0).toList == NN.toList)) = true := by rw [hne]; rfl
     rw [hneb]
     have HN2 := Lib.hid (show ∀ j, j < k + 1 → entNo w0 = j → ¬ ((entCand j (w0 :: r)).may = true ∧ entT (entCand j (w0 :: r)) = s.data.toList) from fun j hj he => by
      rcases Nat.lt_or_ge j k with x | x
      ·exact HNO.out j x he
      ·obtain rfl : j = k := by omega
       exact absurd (by have := (entNo_is (w := w0) (by omega)).1; rw [he] at this; exact this.symm) hw)
     clear hw
     go_wp2
     go_roundw
     case rel => exact ⟨k + 1, by omega, by go_num, HN2.out, HBZ.out⟩
     case measure => simp [intOf]; omega
    ·have hne : ((bsA w0).toList == NN.toList) = true := by rw [← HNN.out, hw]; simp
     have hneb : (!((bsA w0).toList == NN.toList)) = false := by rw [hne]; rfl
     rw [hneb]
     have hke : entNo w0 = k := by rw [hw]; exact entNo_name _ (by omega)
     have HNX := Lib.hid (show Hid (¬ ((entCand k (w0 :: r)).may = true ∧ entS (entCand k (w0 :: r)) = s.data.toList)) → ∀ j, j < k + 1 → entNo w0 = j → ¬ ((entCand j (w0 :: r)).may = true ∧ entT (entCand j (w0 :: r)) = s.data.toList) from fun hx j hj he => by
      obtain rfl : j = k := by omega
      exact fun z => hx.out ((enhit_iff _ _).2 z))
     have HYX := Lib.hid (show ((entCand k (w0 :: r)).may = true ∧ entT (entCand k (w0 :: r)) = s.data.toList) → entD s.data.toList = some (entCand k (w0 :: r)) from fun z => by
      unfold entD
      simp only [HWS.out]
      rw [show wordR (w0 :: r) 0 = w0 from rfl, hke, if_neg (by omega), if_pos z])
     obtain ⟨m3, hm3⟩ : ∃ v, modeT (wordR (w0 :: r) 3) = v := ⟨_, rfl⟩
     have HM3 := Lib.hid hm3
     clear hw hke hm3
     have hkc : k = 0 ∨ k = 1 ∨ k = 2 ∨ k = 3 ∨ k = 4 ∨ k = 5 ∨ k = 6 ∨ k = 7 ∨ k = 8 ∨ k = 9 := by omega
     rcases hkc with hkj | hkj | hkj | hkj | hkj | hkj | hkj | hkj | hkj | hkj
     ·skip
      have p2 : ¬ (2 : Int) ≤ (k : Int) := by omega
      have p6 : (k : Int) ≤ 6 := by omega
      have p7 : ¬ (7 : Int) ≤ (k : Int) := by omega
      have p3 : ((k : Int) == 3) = false := by rw [hkj]; rfl
      have hcd : entCand k (w0 :: r) = ⟨(k : Int), 0, 0, 0, 0, 0⟩ := by
       subst hkj
       unfold entCand
       simp only [HA1.out, HPQ.out, HM3.out]
       rfl
      rw [hcd] at HNX HYX
      have HEN := Lib.hid (fun X => rentry_any ⟨(k : Int), 0, 0, 0, 0, 0⟩ X)
      unfold entA at HEN
      simp only at HEN
      clear hcd hkj
      have HX := Lib.hid (show (wz.alloc (.cells #[.int .i64 (k : Int), .int .i64 0, .int .i64 0, .int .i64 0, .int .i64 0, .int .i64 0] 25)).cell? ⟨wz.heap.size, 0, none⟩ = some (.int .i64 (k : Int)) ∧ (wz.alloc (.cells #[.int .i64 (k : Int), .int .i64 0, .int .i64 0, .int .i64 0, .int .i64 0, .int .i64 0] 25)).cell? ⟨wz.heap.size, 1, none⟩ = some (.int .i64 0) ∧ (wz.alloc (.cells #[.int .i64 (k : Int), .int .i64 0, .int .i64 0, .int .i64 0, .int .i64 0, .int .i64 0] 25)).cell? ⟨wz.heap.size, 2, none⟩ = some (.int .i64 0) ∧ (wz.alloc (.cells #[.int .i64 (k : Int), .int .i64 0, .int .i64 0, .int .i64 0, .int .i64 0, .int .i64 0] 25)).cell? ⟨wz.heap.size, 3, none⟩ = some (.int .i64 0) ∧ (wz.alloc (.cells #[.int .i64 (k : Int), .int .i64 0, .int .i64 0, .int .i64 0, .int .i64 0, .int .i64 0] 25)).cell? ⟨wz.heap.size, 4, none⟩ = some (.int .i64 0) ∧ (wz.alloc (.cells #[.int .i64 (k : Int), .int .i64 0, .int .i64 0, .int .i64 0, .int .i64 0, .int .i64 0] 25)).cell? ⟨wz.heap.size, 5, none⟩ = some (.int .i64 0) from by simp)
      have HBX := Lib.hid (HBZ.out.alloc HBZ.out.size (.cells #[.int .i64 (k : Int), .int .i64 0, .int .i64 0, .int .i64 0, .int .i64 0, .int .i64 0] 25))
      go_wp2_with fail
      refine (HEN.out _).mono ?_
      rintro e w6 ⟨rfl, hb6⟩
      have HB6 := Lib.hid (HBX.out.trans (hb6.mono HBX.out.size))
      obtain ⟨x0, x1, x2, x3, x4, x5⟩ := HX.out
      have x0 := cell_keep hb6 x0
      have x1 := cell_keep hb6 x1
      have x2 := cell_keep hb6 x2
      have x3 := cell_keep hb6 x3
      have x4 := cell_keep hb6 x4
      have x5 := cell_keep hb6 x5
      clear hb6
      obtain ⟨C, hC⟩ : ∃ C, Ent.may ⟨(k : Int), 0, 0, 0, 0, 0⟩ = C := ⟨_, rfl⟩
      obtain ⟨T, hT⟩ : ∃ T, entS ⟨(k : Int), 0, 0, 0, 0, 0⟩ = T := ⟨_, rfl⟩
      have HH := Lib.hid (enhit_iff ⟨(k : Int), 0, 0, 0, 0, 0⟩ s.data.toList)
      rw [hC, hT] at HH
      rw [hC, hT] at HNX
      rw [hC] at HYX
      rw [hC, hT]
      clear hC hT
      by_cases h0 : C = true
      rotate_left
      ·have h0' : C = false := by simpa using h0
       subst h0'
       have hnh := Lib.hid (show ¬ (false = true ∧ T = s.data.toList) from fun z => h0 z.1)
       clear h0
       go_wp2
       go_roundw
       case rel => exact ⟨k + 1, by omega, by go_num, fun j hj he => HNX.out hnh j hj he, HB6.out⟩
       case measure => simp [intOf]; omega
      subst h0
      by_cases h1 : T = s.data.toList
      rotate_left
      ·have h1' : ((bsA T).toList == s.toList) = false := bs_ne (fun z => h1 z.symm)
       have hnh := Lib.hid (show ¬ (true = true ∧ T = s.data.toList) from fun z => h1 z.2)
       clear h1
       go_wp2
       go_roundw
       case rel => exact ⟨k + 1, by omega, by go_num, fun j hj he => HNX.out hnh j hj he, HB6.out⟩
       case measure => simp [intOf]; omega
      have h1' : ((bsA T).toList == s.toList) = true := by rw [bs_list, ba_list, h1]; simp
      have HD := Lib.hid (HYX.out (HH.out.1 ⟨rfl, h1⟩))
      clear h1
      obtain ⟨⟨r0, z0⟩, ⟨r1, z1⟩, ⟨r2, z2⟩, ⟨r3, z3⟩, ⟨r4, z4⟩, ⟨r5, z5⟩⟩ := HZ4.out.below HB6.out HS4.out
      obtain ⟨q0, q1, q2, q3, q4, q5⟩ := set6 r0 r1 r2 r3 r4 r5 (.int .i64 (k : Int)) (.int .i64 0) (.int .i64 0) (.int .i64 0) (.int .i64 0) (.int .i64 0)
      go_wp2
      refine bodyPost_ret (by simp [results, Tryz.results14, go_sem, q0, q1, q2, q3, q4, q5] <;> rfl) rfl ?_
      rw [HD.out]
      exact ⟨rfl, (HB4.out.trans (HB6.out.mono HB4.out.size)).trans ((put6_below (w := w6) (Nat.le_refl W.heap.size) (.int .i64 (k : Int)) (.int .i64 0) (.int .i64 0) (.int .i64 0) (.int .i64 0) (.int .i64 0)))⟩
     ·skip
      have p2 : ¬ (2 : Int) ≤ (k : Int) := by omega
      have p6 : (k : Int) ≤ 6 := by omega
      have p7 : ¬ (7 : Int) ≤ (k : Int) := by omega
      have p3 : ((k : Int) == 3) = false := by rw [hkj]; rfl
      have hcd : entCand k (w0 :: r) = ⟨(k : Int), 0, 0, 0, 0, 0⟩ := by
       subst hkj
       unfold entCand
       simp only [HA1.out, HPQ.out, HM3.out]
       rfl
      rw [hcd] at HNX HYX
      have HEN := Lib.hid (fun X => rentry_any ⟨(k : Int), 0, 0, 0, 0, 0⟩ X)
      unfold entA at HEN
      simp only at HEN
      clear hcd hkj
      have HX := Lib.hid (show (wz.alloc (.cells #[.int .i64 (k : Int), .int .i64 0, .int .i64 0, .int .i64 0, .int .i64 0, .int .i64 0] 25)).cell? ⟨wz.heap.size, 0, none⟩ = some (.int .i64 (k : Int)) ∧ (wz.alloc (.cells #[.int .i64 (k : Int), .int .i64 0, .int .i64 0, .int .i64 0, .int .i64 0, .int .i64 0] 25)).cell? ⟨wz.heap.size, 1, none⟩ = some (.int .i64 0) ∧ (wz.alloc (.cells #[.int .i64 (k : Int), .int .i64 0, .int .i64 0, .int .i64 0, .int .i64 0, .int .i64 0] 25)).cell? ⟨wz.heap.size, 2, none⟩ = some (.int .i64 0) ∧ (wz.alloc (.cells #[.int .i64 (k : Int), .int .i64 0, .int .i64 0, .int .i64 0, .int .i64 0, .int .i64 0] 25)).cell? ⟨wz.heap.size, 3, none⟩ = some (.int .i64 0) ∧ (wz.alloc (.cells #[.int .i64 (k : Int), .int .i64 0, .int .i64 0, .int .i64 0, .int .i64 0, .int .i64 0] 25)).cell? ⟨wz.heap.size, 4, none⟩ = some (.int .i64 0) ∧ (wz.alloc (.cells #[.int .i64 (k : Int), .int .i64 0, .int .i64 0, .int .i64 0, .int .i64 0, .int .i64 0] 25)).cell? ⟨wz.heap.size, 5, none⟩ = some (.int .i64 0) from by simp)
      have HBX := Lib.hid (HBZ.out.alloc HBZ.out.size (.cells #[.int .i64 (k : Int), .int .i64 0, .int .i64 0, .int .i64 0, .int .i64 0, .int .i64 0] 25))
      go_wp2_with fail
      refine (HEN.out _).mono ?_
      rintro e w6 ⟨rfl, hb6⟩
      have HB6 := Lib.hid (HBX.out.trans (hb6.mono HBX.out.size))
      obtain ⟨x0, x1, x2, x3, x4, x5⟩ := HX.out
      have x0 := cell_keep hb6 x0
      have x1 := cell_keep hb6 x1
      have x2 := cell_keep hb6 x2
      have x3 := cell_keep hb6 x3
      have x4 := cell_keep hb6 x4
      have x5 := cell_keep hb6 x5
      clear hb6
      obtain ⟨C, hC⟩ : ∃ C, Ent.may ⟨(k : Int), 0, 0, 0, 0, 0⟩ = C := ⟨_, rfl⟩
      obtain ⟨T, hT⟩ : ∃ T, entS ⟨(k : Int), 0, 0, 0, 0, 0⟩ = T := ⟨_, rfl⟩
      have HH := Lib.hid (enhit_iff ⟨(k : Int), 0, 0, 0, 0, 0⟩ s.data.toList)
      rw [hC, hT] at HH
      rw [hC, hT] at HNX
      rw [hC] at HYX
      rw [hC, hT]
      clear hC hT
      by_cases h0 : C = true
      rotate_left
      ·have h0' : C = false := by simpa using h0
       subst h0'
       have hnh := Lib.hid (show ¬ (false = true ∧ T = s.data.toList) from fun z => h0 z.1)
       clear h0
       go_wp2
       go_roundw
       case rel => exact ⟨k + 1, by omega, by go_num, fun j hj he => HNX.out hnh j hj he, HB6.out⟩
       case measure => simp [intOf]; omega
      subst h0
      by_cases h1 : T = s.data.toList
      rotate_left
      ·have h1' : ((bsA T).toList == s.toList) = false := bs_ne (fun z => h1 z.symm)
       have hnh := Lib.hid (show ¬ (true = true ∧ T = s.data.toList) from fun z => h1 z.2)
       clear h1
       go_wp2
       go_roundw
       case rel => exact ⟨k + 1, by omega, by go_num, fun j hj he => HNX.out hnh j hj he, HB6.out⟩
       case measure => simp [intOf]; omega
      have h1' : ((bsA T).toList == s.toList) = true := by rw [bs_list, ba_list, h1]; simp
      have HD := Lib.hid (HYX.out (HH.out.1 ⟨rfl, h1⟩))
      clear h1
      obtain ⟨⟨r0, z0⟩, ⟨r1, z1⟩, ⟨r2, z2⟩, ⟨r3, z3⟩, ⟨r4, z4⟩, ⟨r5, z5⟩⟩ := HZ4.out.below HB6.out HS4.out
      obtain ⟨q0, q1, q2, q3, q4, q5⟩ := set6 r0 r1 r2 r3 r4 r5 (.int .i64 (k : Int)) (.int .i64 0) (.int .i64 0) (.int .i64 0) (.int .i64 0) (.int .i64 0)
      go_wp2
      refine bodyPost_ret (by simp [results, Tryz.results14, go_sem, q0, q1, q2, q3, q4, q5] <;> rfl) rfl ?_
      rw [HD.out]
      exact ⟨rfl, (HB4.out.trans (HB6.out.mono HB4.out.size)).trans ((put6_below (w := w6) (Nat.le_refl W.heap.size) (.int .i64 (k : Int)) (.int .i64 0) (.int .i64 0) (.int .i64 0) (.int .i64 0) (.int .i64 0)))⟩
     ·skip
      have p2 : (2 : Int) ≤ (k : Int) := by omega
      have p6 : (k : Int) ≤ 6 := by omega
      have p7 : ¬ (7 : Int) ≤ (k : Int) := by omega
      have p3 : ((k : Int) == 3) = false := by rw [hkj]; rfl
      have hcd : entCand k (w0 :: r) = ⟨(k : Int), a1, 0, 0, 0, 0⟩ := by
       subst hkj
       unfold entCand
       simp only [HA1.out, HPQ.out, HM3.out]
       rfl
      rw [hcd] at HNX HYX
      have HEN := Lib.hid (fun X => rentry_any ⟨(k : Int), a1, 0, 0, 0, 0⟩ X)
      unfold entA at HEN
      simp only at HEN
      clear hcd hkj
      have HX := Lib.hid (show (wz.alloc (.cells #[.int .i64 (k : Int), .int .i64 a1, .int .i64 0, .int .i64 0, .int .i64 0, .int .i64 0] 25)).cell? ⟨wz.heap.size, 0, none⟩ = some (.int .i64 (k : Int)) ∧ (wz.alloc (.cells #[.int .i64 (k : Int), .int .i64 a1, .int .i64 0, .int .i64 0, .int .i64 0, .int .i64 0] 25)).cell? ⟨wz.heap.size, 1, none⟩ = some (.int .i64 a1) ∧ (wz.alloc (.cells #[.int .i64 (k : Int), .int .i64 a1, .int .i64 0, .int .i64 0, .int .i64 0, .int .i64 0] 25)).cell? ⟨wz.heap.size, 2, none⟩ = some (.int .i64 0) ∧ (wz.alloc (.cells #[.int .i64 (k : Int), .int .i64 a1, .int .i64 0, .int .i64 0, .int .i64 0, .int .i64 0] 25)).cell? ⟨wz.heap.size, 3, none⟩ = some (.int .i64 0) ∧ (wz.alloc (.cells #[.int .i64 (k : Int), .int .i64 a1, .int .i64 0, .int .i64 0, .int .i64 0, .int .i64 0] 25)).cell? ⟨wz.heap.size, 4, none⟩ = some (.int .i64 0) ∧ (wz.alloc (.cells #[.int .i64 (k : Int), .int .i64 a1, .int .i64 0, .int .i64 0, .int .i64 0, .int .i64 0] 25)).cell? ⟨wz.heap.size, 5, none⟩ = some (.int .i64 0) from by simp)
      have HBX := Lib.hid (HBZ.out.alloc HBZ.out.size (.cells #[.int .i64 (k : Int), .int .i64 a1, .int .i64 0, .int .i64 0, .int .i64 0, .int .i64 0] 25))
      go_wp2_with fail
      refine (HEN.out _).mono ?_
      rintro e w6 ⟨rfl, hb6⟩
      have HB6 := Lib.hid (HBX.out.trans (hb6.mono HBX.out.size))
      obtain ⟨x0, x1, x2, x3, x4, x5⟩ := HX.out
      have x0 := cell_keep hb6 x0
      have x1 := cell_keep hb6 x1
      have x2 := cell_keep hb6 x2
      have x3 := cell_keep hb6 x3
      have x4 := cell_keep hb6 x4
      have x5 := cell_keep hb6 x5
      clear hb6
      obtain ⟨C, hC⟩ : ∃ C, Ent.may ⟨(k : Int), a1, 0, 0, 0, 0⟩ = C := ⟨_, rfl⟩
      obtain ⟨T, hT⟩ : ∃ T, entS ⟨(k : Int), a1, 0, 0, 0, 0⟩ = T := ⟨_, rfl⟩
      have HH := Lib.hid (enhit_iff ⟨(k : Int), a1, 0, 0, 0, 0⟩ s.data.toList)
      rw [hC, hT] at HH
      rw [hC, hT] at HNX
      rw [hC] at HYX
      rw [hC, hT]
      clear hC hT
      by_cases h0 : C = true
      rotate_left
      ·have h0' : C = false := by simpa using h0
       subst h0'
       have hnh := Lib.hid (show ¬ (false = true ∧ T = s.data.toList) from fun z => h0 z.1)
       clear h0
       go_wp2
       go_roundw
       case rel => exact ⟨k + 1, by omega, by go_num, fun j hj he => HNX.out hnh j hj he, HB6.out⟩
       case measure => simp [intOf]; omega
      subst h0
      by_cases h1 : T = s.data.toList
      rotate_left
      ·have h1' : ((bsA T).toList == s.toList) = false := bs_ne (fun z => h1 z.symm)
       have hnh := Lib.hid (show ¬ (true = true ∧ T = s.data.toList) from fun z => h1 z.2)
       clear h1
       go_wp2
       go_roundw
       case rel => exact ⟨k + 1, by omega, by go_num, fun j hj he => HNX.out hnh j hj he, HB6.out⟩
       case measure => simp [intOf]; omega
      have h1' : ((bsA T).toList == s.toList) = true := by rw [bs_list, ba_list, h1]; simp
      have HD := Lib.hid (HYX.out (HH.out.1 ⟨rfl, h1⟩))
      clear h1
      obtain ⟨⟨r0, z0⟩, ⟨r1, z1⟩, ⟨r2, z2⟩, ⟨r3, z3⟩, ⟨r4, z4⟩, ⟨r5, z5⟩⟩ := HZ4.out.below HB6.out HS4.out
      obtain ⟨q0, q1, q2, q3, q4, q5⟩ := set6 r0 r1 r2 r3 r4 r5 (.int .i64 (k : Int)) (.int .i64 a1) (.int .i64 0) (.int .i64 0) (.int .i64 0) (.int .i64 0)
      go_wp2
      refine bodyPost_ret (by simp [results, Tryz.results14, go_sem, q0, q1, q2, q3, q4, q5] <;> rfl) rfl ?_
      rw [HD.out]
      exact ⟨rfl, (HB4.out.trans (HB6.out.mono HB4.out.size)).trans ((put6_below (w := w6) (Nat.le_refl W.heap.size) (.int .i64 (k : Int)) (.int .i64 a1) (.int .i64 0) (.int .i64 0) (.int .i64 0) (.int .i64 0)))⟩
     ·skip
      have p2 : (2 : Int) ≤ (k : Int) := by omega
      have p6 : (k : Int) ≤ 6 := by omega
      have p7 : ¬ (7 : Int) ≤ (k : Int) := by omega
      have p3 : ((k : Int) == 3) = true := by rw [hkj]; rfl
      have hcd : entCand k (w0 :: r) = ⟨(k : Int), a1, (p : Int), (q : Int), (m3 : Int), 0⟩ := by
       subst hkj
       unfold entCand
       simp only [HA1.out, HPQ.out, HM3.out]
       rfl
      rw [hcd] at HNX HYX
      have HEN := Lib.hid (fun X => rentry_any ⟨(k : Int), a1, (p : Int), (q : Int), (m3 : Int), 0⟩ X)
      unfold entA at HEN
      simp only at HEN
      clear hcd hkj
      have hbP : Below wz.heap.size wz (wz.alloc (.cells #[.int .i64 (k : Int), .int .i64 a1, .int .i64 0, .int .i64 0, .int .i64 0, .int .i64 0] 25)) := (Below.refl _ _).alloc (Nat.le_refl _) _
      have hbQ : Below wz.heap.size wz (wz.alloc (.cells #[.int .i64 (k : Int), .int .i64 a1, .int .i64 (p : Int), .int .i64 (q : Int), .int .i64 0, .int .i64 0] 25)) := (Below.refl _ _).alloc (Nat.le_refl _) _
      have pz0 := cell_keep hbP (cell_keep HBZ.out HPC.out.1)
      have pz1 := cell_keep hbP (cell_keep HBZ.out HPC.out.2)
      have HWQ := Lib.hid (word_any (some ⟨gw, ow, none⟩) n cp 3 (w0 :: r) (wz.alloc (.cells #[.int .i64 (k : Int), .int .i64 a1, .int .i64 (p : Int), .int .i64 (q : Int), .int .i64 0, .int .i64 0] 25)) ((HRD4.out.below HBZ.out).below hbQ) HN.out (by omega) (by omega))
      clear hbP
      go_wp2_with fail
      refine HWQ.out.mono ?_
      rintro e w' ⟨rfl, rfl⟩
      clear pz0 pz1
      have HMQ := Lib.hid (rmode_any (bsA (wordR (w0 :: r) 3)) (wz.alloc (.cells #[.int .i64 (k : Int), .int .i64 a1, .int .i64 (p : Int), .int .i64 (q : Int), .int .i64 0, .int .i64 0] 25)))
      rw [bsA_list, HM3.out] at HMQ
      go_wp2_with fail
      refine HMQ.out.mono ?_
      rintro e w5 ⟨rfl, hb5⟩
      have y0 := cell_keep hb5 (b := wz.heap.size) (o := 0) (u := .int .i64 (k : Int)) (by simp)
      have y1 := cell_keep hb5 (b := wz.heap.size) (o := 1) (u := .int .i64 a1) (by simp)
      have y2 := cell_keep hb5 (b := wz.heap.size) (o := 2) (u := .int .i64 (p : Int)) (by simp)
      have y3 := cell_keep hb5 (b := wz.heap.size) (o := 3) (u := .int .i64 (q : Int)) (by simp)
      have y4 := cell_keep hb5 (b := wz.heap.size) (o := 4) (u := .int .i64 0) (by simp)
      have y5 := cell_keep hb5 (b := wz.heap.size) (o := 5) (u := .int .i64 0) (by simp)
      have yz := (hb5.frozen (p := ⟨wz.heap.size, 4, none⟩) (by simp)).trans (show (wz.alloc (.cells #[.int .i64 (k : Int), .int .i64 a1, .int .i64 (p : Int), .int .i64 (q : Int), .int .i64 0, .int .i64 0] 25)).frozen? ⟨wz.heap.size, 4, none⟩ = false from by simp)
      have HX := Lib.hid (And.intro ((World.cell?_setCell_other w5 ⟨wz.heap.size, 4, none⟩ ⟨wz.heap.size, 0, none⟩ (.int .i64 (m3 : Int)) (by simp)).trans y0) (And.intro ((World.cell?_setCell_other w5 ⟨wz.heap.size, 4, none⟩ ⟨wz.heap.size, 1, none⟩ (.int .i64 (m3 : Int)) (by simp)).trans y1) (And.intro ((World.cell?_setCell_other w5 ⟨wz.heap.size, 4, none⟩ ⟨wz.heap.size, 2, none⟩ (.int .i64 (m3 : Int)) (by simp)).trans y2) (And.intro ((World.cell?_setCell_other w5 ⟨wz.heap.size, 4, none⟩ ⟨wz.heap.size, 3, none⟩ (.int .i64 (m3 : Int)) (by simp)).trans y3) (And.intro (World.cell?_setCell_same w5 ⟨wz.heap.size, 4, none⟩ (.int .i64 (m3 : Int)) y4) ((World.cell?_setCell_other w5 ⟨wz.heap.size, 4, none⟩ ⟨wz.heap.size, 5, none⟩ (.int .i64 (m3 : Int)) (by simp)).trans y5))))))
      have HBQ := Lib.hid (show Below w4.heap.size w4 (wz.alloc (.cells #[.int .i64 (k : Int), .int .i64 a1, .int .i64 (p : Int), .int .i64 (q : Int), .int .i64 0, .int .i64 0] 25)) from HBZ.out.alloc HBZ.out.size _)
      have HBX := Lib.hid (Below.setCell (HBQ.out.trans (hb5.mono HBQ.out.size)) (p := ⟨wz.heap.size, 4, none⟩) (show w4.heap.size ≤ wz.heap.size from HBZ.out.size) (.int .i64 (m3 : Int)))
      clear hbQ hb5 HBQ
      obtain ⟨f0, f1, f2, f3, f4, f5⟩ := HX.out
      go_wp2_with fail
      clear f0 f1 f2 f3 f4 f5 y0 y1 y2 y3 y4 y5 yz
      refine (HEN.out _).mono ?_
      rintro e w6 ⟨rfl, hb6⟩
      have HB6 := Lib.hid (HBX.out.trans (hb6.mono HBX.out.size))
      obtain ⟨x0, x1, x2, x3, x4, x5⟩ := HX.out
      have x0 := cell_keep hb6 x0
      have x1 := cell_keep hb6 x1
      have x2 := cell_keep hb6 x2
      have x3 := cell_keep hb6 x3
      have x4 := cell_keep hb6 x4
      have x5 := cell_keep hb6 x5
      clear hb6
      obtain ⟨C, hC⟩ : ∃ C, Ent.may ⟨(k : Int), a1, (p : Int), (q : Int), (m3 : Int), 0⟩ = C := ⟨_, rfl⟩
      obtain ⟨T, hT⟩ : ∃ T, entS ⟨(k : Int), a1, (p : Int), (q : Int), (m3 : Int), 0⟩ = T := ⟨_, rfl⟩
      have HH := Lib.hid (enhit_iff ⟨(k : Int), a1, (p : Int), (q : Int), (m3 : Int), 0⟩ s.data.toList)
      rw [hC, hT] at HH
      rw [hC, hT] at HNX
      rw [hC] at HYX
      rw [hC, hT]
      clear hC hT
      by_cases h0 : C = true
      rotate_left
      ·have h0' : C = false := by simpa using h0
       subst h0'
       have hnh := Lib.hid (show ¬ (false = true ∧ T = s.data.toList) from fun z => h0 z.1)
       clear h0
       go_wp2
       go_roundw
       case rel => exact ⟨k + 1, by omega, by go_num, fun j hj he => HNX.out hnh j hj he, HB6.out⟩
       case measure => simp [intOf]; omega
      subst h0
      by_cases h1 : T = s.data.toList
      rotate_left
      ·have h1' : ((bsA T).toList == s.toList) = false := bs_ne (fun z => h1 z.symm)
       have hnh := Lib.hid (show ¬ (true = true ∧ T = s.data.toList) from fun z => h1 z.2)
       clear h1
       go_wp2
       go_roundw
       case rel => exact ⟨k + 1, by omega, by go_num, fun j hj he => HNX.out hnh j hj he, HB6.out⟩
       case measure => simp [intOf]; omega
      have h1' : ((bsA T).toList == s.toList) = true := by rw [bs_list, ba_list, h1]; simp
      have HD := Lib.hid (HYX.out (HH.out.1 ⟨rfl, h1⟩))
      clear h1
      obtain ⟨⟨r0, z0⟩, ⟨r1, z1⟩, ⟨r2, z2⟩, ⟨r3, z3⟩, ⟨r4, z4⟩, ⟨r5, z5⟩⟩ := HZ4.out.below HB6.out HS4.out
      obtain ⟨q0, q1, q2, q3, q4, q5⟩ := set6 r0 r1 r2 r3 r4 r5 (.int .i64 (k : Int)) (.int .i64 a1) (.int .i64 (p : Int)) (.int .i64 (q : Int)) (.int .i64 (m3 : Int)) (.int .i64 0)
      go_wp2
      refine bodyPost_ret (by simp [results, Tryz.results14, go_sem, q0, q1, q2, q3, q4, q5] <;> rfl) rfl ?_
      rw [HD.out]
      exact ⟨rfl, (HB4.out.trans (HB6.out.mono HB4.out.size)).trans ((put6_below (w := w6) (Nat.le_refl W.heap.size) (.int .i64 (k : Int)) (.int .i64 a1) (.int .i64 (p : Int)) (.int .i64 (q : Int)) (.int .i64 (m3 : Int)) (.int .i64 0)))⟩
     ·skip
      have p2 : (2 : Int) ≤ (k : Int) := by omega
      have p6 : (k : Int) ≤ 6 := by omega
      have p7 : ¬ (7 : Int) ≤ (k : Int) := by omega
      have p3 : ((k : Int) == 3) = false := by rw [hkj]; rfl
      have hcd : entCand k (w0 :: r) = ⟨(k : Int), a1, 0, 0, 0, 0⟩ := by
       subst hkj
       unfold entCand
       simp only [HA1.out, HPQ.out, HM3.out]
       rfl
      rw [hcd] at HNX HYX
      have HEN := Lib.hid (fun X => rentry_any ⟨(k : Int), a1, 0, 0, 0, 0⟩ X)
      unfold entA at HEN
      simp only at HEN
      clear hcd hkj
      have HX := Lib.hid (show (wz.alloc (.cells #[.int .i64 (k : Int), .int .i64 a1, .int .i64 0, .int .i64 0, .int .i64 0, .int .i64 0] 25)).cell? ⟨wz.heap.size, 0, none⟩ = some (.int .i64 (k : Int)) ∧ (wz.alloc (.cells #[.int .i64 (k : Int), .int .i64 a1, .int .i64 0, .int .i64 0, .int .i64 0, .int .i64 0] 25)).cell? ⟨wz.heap.size, 1, none⟩ = some (.int .i64 a1) ∧ (wz.alloc (.cells #[.int .i64 (k : Int), .int .i64 a1, .int .i64 0, .int .i64 0, .int .i64 0, .int .i64 0] 25)).cell? ⟨wz.heap.size, 2, none⟩ = some (.int .i64 0) ∧ (wz.alloc (.cells #[.int .i64 (k : Int), .int .i64 a1, .int .i64 0, .int .i64 0, .int .i64 0, .int .i64 0] 25)).cell? ⟨wz.heap.size, 3, none⟩ = some (.int .i64 0) ∧ (wz.alloc (.cells #[.int .i64 (k : Int), .int .i64 a1, .int .i64 0, .int .i64 0, .int .i64 0, .int .i64 0] 25)).cell? ⟨wz.heap.size, 4, none⟩ = some (.int .i64 0) ∧ (wz.alloc (.cells #[.int .i64 (k : Int), .int .i64 a1, .int .i64 0, .int .i64 0, .int .i64 0, .int .i64 0] 25)).cell? ⟨wz.heap.size, 5, none⟩ = some (.int .i64 0) from by simp)
      have HBX := Lib.hid (HBZ.out.alloc HBZ.out.size (.cells #[.int .i64 (k : Int), .int .i64 a1, .int .i64 0, .int .i64 0, .int .i64 0, .int .i64 0] 25))
      go_wp2_with fail
      refine (HEN.out _).mono ?_
      rintro e w6 ⟨rfl, hb6⟩
      have HB6 := Lib.hid (HBX.out.trans (hb6.mono HBX.out.size))
      obtain ⟨x0, x1, x2, x3, x4, x5⟩ := HX.out
      have x0 := cell_keep hb6 x0
      have x1 := cell_keep hb6 x1
      have x2 := cell_keep hb6 x2
      have x3 := cell_keep hb6 x3
      have x4 := cell_keep hb6 x4
      have x5 := cell_keep hb6 x5
      clear hb6
      obtain ⟨C, hC⟩ : ∃ C, Ent.may ⟨(k : Int), a1, 0, 0, 0, 0⟩ = C := ⟨_, rfl⟩
      obtain ⟨T, hT⟩ : ∃ T, entS ⟨(k : Int), a1, 0, 0, 0, 0⟩ = T := ⟨_, rfl⟩
      have HH := Lib.hid (enhit_iff ⟨(k : Int), a1, 0, 0, 0, 0⟩ s.data.toList)
      rw [hC, hT] at HH
      rw [hC, hT] at HNX
      rw [hC] at HYX
      rw [hC, hT]
      clear hC hT
      by_cases h0 : C = true
      rotate_left
      ·have h0' : C = false := by simpa using h0
       subst h0'
       have hnh := Lib.hid (show ¬ (false = true ∧ T = s.data.toList) from fun z => h0 z.1)
       clear h0
       go_wp2
       go_roundw
       case rel => exact ⟨k + 1, by omega, by go_num, fun j hj he => HNX.out hnh j hj he, HB6.out⟩
       case measure => simp [intOf]; omega
      subst h0
      by_cases h1 : T = s.data.toList
      rotate_left
      ·have h1' : ((bsA T).toList == s.toList) = false := bs_ne (fun z => h1 z.symm)
       have hnh := Lib.hid (show ¬ (true = true ∧ T = s.data.toList) from fun z => h1 z.2)
       clear h1
       go_wp2
       go_roundw
       case rel => exact ⟨k + 1, by omega, by go_num, fun j hj he => HNX.out hnh j hj he, HB6.out⟩
       case measure => simp [intOf]; omega
      have h1' : ((bsA T).toList == s.toList) = true := by rw [bs_list, ba_list, h1]; simp
      have HD := Lib.hid (HYX.out (HH.out.1 ⟨rfl, h1⟩))
      clear h1
      obtain ⟨⟨r0, z0⟩, ⟨r1, z1⟩, ⟨r2, z2⟩, ⟨r3, z3⟩, ⟨r4, z4⟩, ⟨r5, z5⟩⟩ := HZ4.out.below HB6.out HS4.out
      obtain ⟨q0, q1, q2, q3, q4, q5⟩ := set6 r0 r1 r2 r3 r4 r5 (.int .i64 (k : Int)) (.int .i64 a1) (.int .i64 0) (.int .i64 0) (.int .i64 0) (.int .i64 0)
      go_wp2
      refine bodyPost_ret (by simp [results, Tryz.results14, go_sem, q0, q1, q2, q3, q4, q5] <;> rfl) rfl ?_
      rw [HD.out]
      exact ⟨rfl, (HB4.out.trans (HB6.out.mono HB4.out.size)).trans ((put6_below (w := w6) (Nat.le_refl W.heap.size) (.int .i64 (k : Int)) (.int .i64 a1) (.int .i64 0) (.int .i64 0) (.int .i64 0) (.int .i64 0)))⟩
     ·skip
      have p2 : (2 : Int) ≤ (k : Int) := by omega
      have p6 : (k : Int) ≤ 6 := by omega
      have p7 : ¬ (7 : Int) ≤ (k : Int) := by omega
      have p3 : ((k : Int) == 3) = false := by rw [hkj]; rfl
      have hcd : entCand k (w0 :: r) = ⟨(k : Int), a1, 0, 0, 0, 0⟩ := by
       subst hkj
       unfold entCand
       simp only [HA1.out, HPQ.out, HM3.out]
       rfl
      rw [hcd] at HNX HYX
      have HEN := Lib.hid (fun X => rentry_any ⟨(k : Int), a1, 0, 0, 0, 0⟩ X)
      unfold entA at HEN
      simp only at HEN
      clear hcd hkj
      have HX := Lib.hid (show (wz.alloc (.cells #[.int .i64 (k : Int), .int .i64 a1, .int .i64 0, .int .i64 0, .int .i64 0, .int .i64 0] 25)).cell? ⟨wz.heap.size, 0, none⟩ = some (.int .i64 (k : Int)) ∧ (wz.alloc (.cells #[.int .i64 (k : Int), .int .i64 a1, .int .i64 0, .int .i64 0, .int .i64 0, .int .i64 0] 25)).cell? ⟨wz.heap.size, 1, none⟩ = some (.int .i64 a1) ∧ (wz.alloc (.cells #[.int .i64 (k : Int), .int .i64 a1, .int .i64 0, .int .i64 0, .int .i64 0, .int .i64 0] 25)).cell? ⟨wz.heap.size, 2, none⟩ = some (.int .i64 0) ∧ (wz.alloc (.cells #[.int .i64 (k : Int), .int .i64 a1, .int .i64 0, .int .i64 0, .int .i64 0, .int .i64 0] 25)).cell? ⟨wz.heap.size, 3, none⟩ = some (.int .i64 0) ∧ (wz.alloc (.cells #[.int .i64 (k : Int), .int .i64 a1, .int .i64 0, .int .i64 0, .int .i64 0, .int .i64 0] 25)).cell? ⟨wz.heap.size, 4, none⟩ = some (.int .i64 0) ∧ (wz.alloc (.cells #[.int .i64 (k : Int), .int .i64 a1, .int .i64 0, .int .i64 0, .int .i64 0, .int .i64 0] 25)).cell? ⟨wz.heap.size, 5, none⟩ = some (.int .i64 0) from by simp)
      have HBX := Lib.hid (HBZ.out.alloc HBZ.out.size (.cells #[.int .i64 (k : Int), .int .i64 a1, .int .i64 0, .int .i64 0, .int .i64 0, .int .i64 0] 25))
      go_wp2_with fail
      refine (HEN.out _).mono ?_
      rintro e w6 ⟨rfl, hb6⟩
      have HB6 := Lib.hid (HBX.out.trans (hb6.mono HBX.out.size))
      obtain ⟨x0, x1, x2, x3, x4, x5⟩ := HX.out
      have x0 := cell_keep hb6 x0
      have x1 := cell_keep hb6 x1
      have x2 := cell_keep hb6 x2
      have x3 := cell_keep hb6 x3
      have x4 := cell_keep hb6 x4
      have x5 := cell_keep hb6 x5
      clear hb6
      obtain ⟨C, hC⟩ : ∃ C, Ent.may ⟨(k : Int), a1, 0, 0, 0, 0⟩ = C := ⟨_, rfl⟩
      obtain ⟨T, hT⟩ : ∃ T, entS ⟨(k : Int), a1, 0, 0, 0, 0⟩ = T := ⟨_, rfl⟩
      have HH := Lib.hid (enhit_iff ⟨(k : Int), a1, 0, 0, 0, 0⟩ s.data.toList)
      rw [hC, hT] at HH
      rw [hC, hT] at HNX
      rw [hC] at HYX
      rw [hC, hT]
      clear hC hT
      by_cases h0 : C = true
      rotate_left
      ·have h0' : C = false := by simpa using h0
       subst h0'
       have hnh := Lib.hid (show ¬ (false = true ∧ T = s.data.toList) from fun z => h0 z.1)
       clear h0
       go_wp2
       go_roundw
       case rel => exact ⟨k + 1, by omega, by go_num, fun j hj he => HNX.out hnh j hj he, HB6.out⟩
       case measure => simp [intOf]; omega
      subst h0
      by_cases h1 : T = s.data.toList
      rotate_left
      ·have h1' : ((bsA T).toList == s.toList) = false := bs_ne (fun z => h1 z.symm)
       have hnh := Lib.hid (show ¬ (true = true ∧ T = s.data.toList) from fun z => h1 z.2)
       clear h1
       go_wp2
       go_roundw
       case rel => exact ⟨k + 1, by omega, by go_num, fun j hj he => HNX.out hnh j hj he, HB6.out⟩
       case measure => simp [intOf]; omega
      have h1' : ((bsA T).toList == s.toList) = true := by rw [bs_list, ba_list, h1]; simp
      have HD := Lib.hid (HYX.out (HH.out.1 ⟨rfl, h1⟩))
      clear h1
      obtain ⟨⟨r0, z0⟩, ⟨r1, z1⟩, ⟨r2, z2⟩, ⟨r3, z3⟩, ⟨r4, z4⟩, ⟨r5, z5⟩⟩ := HZ4.out.below HB6.out HS4.out
      obtain ⟨q0, q1, q2, q3, q4, q5⟩ := set6 r0 r1 r2 r3 r4 r5 (.int .i64 (k : Int)) (.int .i64 a1) (.int .i64 0) (.int .i64 0) (.int .i64 0) (.int .i64 0)
      go_wp2
      refine bodyPost_ret (by simp [results, Tryz.results14, go_sem, q0, q1, q2, q3, q4, q5] <;> rfl) rfl ?_
      rw [HD.out]
      exact ⟨rfl, (HB4.out.trans (HB6.out.mono HB4.out.size)).trans ((put6_below (w := w6) (Nat.le_refl W.heap.size) (.int .i64 (k : Int)) (.int .i64 a1) (.int .i64 0) (.int .i64 0) (.int .i64 0) (.int .i64 0)))⟩
     ·skip
      have p2 : (2 : Int) ≤ (k : Int) := by omega
      have p6 : (k : Int) ≤ 6 := by omega
      have p7 : ¬ (7 : Int) ≤ (k : Int) := by omega
      have p3 : ((k : Int) == 3) = false := by rw [hkj]; rfl
      have hcd : entCand k (w0 :: r) = ⟨(k : Int), a1, 0, 0, 0, 0⟩ := by
       subst hkj
       unfold entCand
       simp only [HA1.out, HPQ.out, HM3.out]
       rfl
      rw [hcd] at HNX HYX
      have HEN := Lib.hid (fun X => rentry_any ⟨(k : Int), a1, 0, 0, 0, 0⟩ X)
      unfold entA at HEN
      simp only at HEN
      clear hcd hkj
      have HX := Lib.hid (show (wz.alloc (.cells #[.int .i64 (k : Int), .int .i64 a1, .int .i64 0, .int .i64 0, .int .i64 0, .int .i64 0] 25)).cell? ⟨wz.heap.size, 0, none⟩ = some (.int .i64 (k : Int)) ∧ (wz.alloc (.cells #[.int .i64 (k : Int), .int .i64 a1, .int .i64 0, .int .i64 0, .int .i64 0, .int .i64 0] 25)).cell? ⟨wz.heap.size, 1, none⟩ = some (.int .i64 a1) ∧ (wz.alloc (.cells #[.int .i64 (k : Int), .int .i64 a1, .int .i64 0, .int .i64 0, .int .i64 0, .int .i64 0] 25)).cell? ⟨wz.heap.size, 2, none⟩ = some (.int .i64 0) ∧ (wz.alloc (.cells #[.int .i64 (k : Int), .int .i64 a1, .int .i64 0, .int .i64 0, .int .i64 0, .int .i64 0] 25)).cell? ⟨wz.heap.size, 3, none⟩ = some (.int .i64 0) ∧ (wz.alloc (.cells #[.int .i64 (k : Int), .int .i64 a1, .int .i64 0, .int .i64 0, .int .i64 0, .int .i64 0] 25)).cell? ⟨wz.heap.size, 4, none⟩ = some (.int .i64 0) ∧ (wz.alloc (.cells #[.int .i64 (k : Int), .int .i64 a1, .int .i64 0, .int .i64 0, .int .i64 0, .int .i64 0] 25)).cell? ⟨wz.heap.size, 5, none⟩ = some (.int .i64 0) from by simp)
      have HBX := Lib.hid (HBZ.out.alloc HBZ.out.size (.cells #[.int .i64 (k : Int), .int .i64 a1, .int .i64 0, .int .i64 0, .int .i64 0, .int .i64 0] 25))
      go_wp2_with fail
      refine (HEN.out _).mono ?_
      rintro e w6 ⟨rfl, hb6⟩
      have HB6 := Lib.hid (HBX.out.trans (hb6.mono HBX.out.size))
      obtain ⟨x0, x1, x2, x3, x4, x5⟩ := HX.out
      have x0 := cell_keep hb6 x0
      have x1 := cell_keep hb6 x1
      have x2 := cell_keep hb6 x2
      have x3 := cell_keep hb6 x3
      have x4 := cell_keep hb6 x4
      have x5 := cell_keep hb6 x5
      clear hb6
      obtain ⟨C, hC⟩ : ∃ C, Ent.may ⟨(k : Int), a1, 0, 0, 0, 0⟩ = C := ⟨_, rfl⟩
      obtain ⟨T, hT⟩ : ∃ T, entS ⟨(k : Int), a1, 0, 0, 0, 0⟩ = T := ⟨_, rfl⟩
      have HH := Lib.hid (enhit_iff ⟨(k : Int), a1, 0, 0, 0, 0⟩ s.data.toList)
      rw [hC, hT] at HH
      rw [hC, hT] at HNX
      rw [hC] at HYX
      rw [hC, hT]
      clear hC hT
      by_cases h0 : C = true
      rotate_left
      ·have h0' : C = false := by simpa using h0
       subst h0'
       have hnh := Lib.hid (show ¬ (false = true ∧ T = s.data.toList) from fun z => h0 z.1)
       clear h0
       go_wp2
       go_roundw
       case rel => exact ⟨k + 1, by omega, by go_num, fun j hj he => HNX.out hnh j hj he, HB6.out⟩
       case measure => simp [intOf]; omega
      subst h0
      by_cases h1 : T = s.data.toList
      rotate_left
      ·have h1' : ((bsA T).toList == s.toList) = false := bs_ne (fun z => h1 z.symm)
       have hnh := Lib.hid (show ¬ (true = true ∧ T = s.data.toList) from fun z => h1 z.2)
       clear h1
       go_wp2
       go_roundw
       case rel => exact ⟨k + 1, by omega, by go_num, fun j hj he => HNX.out hnh j hj he, HB6.out⟩
       case measure => simp [intOf]; omega
      have h1' : ((bsA T).toList == s.toList) = true := by rw [bs_list, ba_list, h1]; simp
      have HD := Lib.hid (HYX.out (HH.out.1 ⟨rfl, h1⟩))
      clear h1
      obtain ⟨⟨r0, z0⟩, ⟨r1, z1⟩, ⟨r2, z2⟩, ⟨r3, z3⟩, ⟨r4, z4⟩, ⟨r5, z5⟩⟩ := HZ4.out.below HB6.out HS4.out
      obtain ⟨q0, q1, q2, q3, q4, q5⟩ := set6 r0 r1 r2 r3 r4 r5 (.int .i64 (k : Int)) (.int .i64 a1) (.int .i64 0) (.int .i64 0) (.int .i64 0) (.int .i64 0)
      go_wp2
      refine bodyPost_ret (by simp [results, Tryz.results14, go_sem, q0, q1, q2, q3, q4, q5] <;> rfl) rfl ?_
      rw [HD.out]
      exact ⟨rfl, (HB4.out.trans (HB6.out.mono HB4.out.size)).trans ((put6_below (w := w6) (Nat.le_refl W.heap.size) (.int .i64 (k : Int)) (.int .i64 a1) (.int .i64 0) (.int .i64 0) (.int .i64 0) (.int .i64 0)))⟩
     ·skip
      have p2 : (2 : Int) ≤ (k : Int) := by omega
      have p6 : ¬ (k : Int) ≤ 6 := by omega
      have p7 : (7 : Int) ≤ (k : Int) := by omega
      have p3 : ((k : Int) == 3) = false := by rw [hkj]; rfl
      have hcd : entCand k (w0 :: r) = ⟨(k : Int), 0, 0, 0, 0, a1⟩ := by
       subst hkj
       unfold entCand
       simp only [HA1.out, HPQ.out, HM3.out]
       rfl
      rw [hcd] at HNX HYX
      have HEN := Lib.hid (fun X => rentry_any ⟨(k : Int), 0, 0, 0, 0, a1⟩ X)
      unfold entA at HEN
      simp only at HEN
      clear hcd hkj
      have HX := Lib.hid (show (wz.alloc (.cells #[.int .i64 (k : Int), .int .i64 0, .int .i64 0, .int .i64 0, .int .i64 0, .int .i64 a1] 25)).cell? ⟨wz.heap.size, 0, none⟩ = some (.int .i64 (k : Int)) ∧ (wz.alloc (.cells #[.int .i64 (k : Int), .int .i64 0, .int .i64 0, .int .i64 0, .int .i64 0, .int .i64 a1] 25)).cell? ⟨wz.heap.size, 1, none⟩ = some (.int .i64 0) ∧ (wz.alloc (.cells #[.int .i64 (k : Int), .int .i64 0, .int .i64 0, .int .i64 0, .int .i64 0, .int .i64 a1] 25)).cell? ⟨wz.heap.size, 2, none⟩ = some (.int .i64 0) ∧ (wz.alloc (.cells #[.int .i64 (k : Int), .int .i64 0, .int .i64 0, .int .i64 0, .int .i64 0, .int .i64 a1] 25)).cell? ⟨wz.heap.size, 3, none⟩ = some (.int .i64 0) ∧ (wz.alloc (.cells #[.int .i64 (k : Int), .int .i64 0, .int .i64 0, .int .i64 0, .int .i64 0, .int .i64 a1] 25)).cell? ⟨wz.heap.size, 4, none⟩ = some (.int .i64 0) ∧ (wz.alloc (.cells #[.int .i64 (k : Int), .int .i64 0, .int .i64 0, .int .i64 0, .int .i64 0, .int .i64 a1] 25)).cell? ⟨wz.heap.size, 5, none⟩ = some (.int .i64 a1) from by simp)
      have HBX := Lib.hid (HBZ.out.alloc HBZ.out.size (.cells #[.int .i64 (k : Int), .int .i64 0, .int .i64 0, .int .i64 0, .int .i64 0, .int .i64 a1] 25))
      go_wp2_with fail
      refine (HEN.out _).mono ?_
      rintro e w6 ⟨rfl, hb6⟩
      have HB6 := Lib.hid (HBX.out.trans (hb6.mono HBX.out.size))
      obtain ⟨x0, x1, x2, x3, x4, x5⟩ := HX.out
      have x0 := cell_keep hb6 x0
      have x1 := cell_keep hb6 x1
      have x2 := cell_keep hb6 x2
      have x3 := cell_keep hb6 x3
      have x4 := cell_keep hb6 x4
      have x5 := cell_keep hb6 x5
      clear hb6
      obtain ⟨C, hC⟩ : ∃ C, Ent.may ⟨(k : Int), 0, 0, 0, 0, a1⟩ = C := ⟨_, rfl⟩
      obtain ⟨T, hT⟩ : ∃ T, entS ⟨(k : Int), 0, 0, 0, 0, a1⟩ = T := ⟨_, rfl⟩
      have HH := Lib.hid (enhit_iff ⟨(k : Int), 0, 0, 0, 0, a1⟩ s.data.toList)
      rw [hC, hT] at HH
      rw [hC, hT] at HNX
      rw [hC] at HYX
      rw [hC, hT]
      clear hC hT
      by_cases h0 : C = true
      rotate_left
      ·have h0' : C = false := by simpa using h0
       subst h0'
       have hnh := Lib.hid (show ¬ (false = true ∧ T = s.data.toList) from fun z => h0 z.1)
       clear h0
       go_wp2
       go_roundw
       case rel => exact ⟨k + 1, by omega, by go_num, fun j hj he => HNX.out hnh j hj he, HB6.out⟩
       case measure => simp [intOf]; omega
      subst h0
      by_cases h1 : T = s.data.toList
      rotate_left
      ·have h1' : ((bsA T).toList == s.toList) = false := bs_ne (fun z => h1 z.symm)
       have hnh := Lib.hid (show ¬ (true = true ∧ T = s.data.toList) from fun z => h1 z.2)
       clear h1
       go_wp2
       go_roundw
       case rel => exact ⟨k + 1, by omega, by go_num, fun j hj he => HNX.out hnh j hj he, HB6.out⟩
       case measure => simp [intOf]; omega
      have h1' : ((bsA T).toList == s.toList) = true := by rw [bs_list, ba_list, h1]; simp
      have HD := Lib.hid (HYX.out (HH.out.1 ⟨rfl, h1⟩))
      clear h1
      obtain ⟨⟨r0, z0⟩, ⟨r1, z1⟩, ⟨r2, z2⟩, ⟨r3, z3⟩, ⟨r4, z4⟩, ⟨r5, z5⟩⟩ := HZ4.out.below HB6.out HS4.out
      obtain ⟨q0, q1, q2, q3, q4, q5⟩ := set6 r0 r1 r2 r3 r4 r5 (.int .i64 (k : Int)) (.int .i64 0) (.int .i64 0) (.int .i64 0) (.int .i64 0) (.int .i64 a1)
      go_wp2
      refine bodyPost_ret (by simp [results, Tryz.results14, go_sem, q0, q1, q2, q3, q4, q5] <;> rfl) rfl ?_
      rw [HD.out]
      exact ⟨rfl, (HB4.out.trans (HB6.out.mono HB4.out.size)).trans ((put6_below (w := w6) (Nat.le_refl W.heap.size) (.int .i64 (k : Int)) (.int .i64 0) (.int .i64 0) (.int .i64 0) (.int .i64 0) (.int .i64 a1)))⟩
     ·skip
      have p2 : (2 : Int) ≤ (k : Int) := by omega
      have p6 : ¬ (k : Int) ≤ 6 := by omega
      have p7 : (7 : Int) ≤ (k : Int) := by omega
      have p3 : ((k : Int) == 3) = false := by rw [hkj]; rfl
      have hcd : entCand k (w0 :: r) = ⟨(k : Int), 0, 0, 0, 0, a1⟩ := by
       subst hkj
       unfold entCand
       simp only [HA1.out, HPQ.out, HM3.out]
       rfl
      rw [hcd] at HNX HYX
      have HEN := Lib.hid (fun X => rentry_any ⟨(k : Int), 0, 0, 0, 0, a1⟩ X)
      unfold entA at HEN
      simp only at HEN
      clear hcd hkj
      have HX := Lib.hid (show (wz.alloc (.cells #[.int .i64 (k : Int), .int .i64 0, .int .i64 0, .int .i64 0, .int .i64 0, .int .i64 a1] 25)).cell? ⟨wz.heap.size, 0, none⟩ = some (.int .i64 (k : Int)) ∧ (wz.alloc (.cells #[.int .i64 (k : Int), .int .i64 0, .int .i64 0, .int .i64 0, .int .i64 0, .int .i64 a1] 25)).cell? ⟨wz.heap.size, 1, none⟩ = some (.int .i64 0) ∧ (wz.alloc (.cells #[.int .i64 (k : Int), .int .i64 0, .int .i64 0, .int .i64 0, .int .i64 0, .int .i64 a1] 25)).cell? ⟨wz.heap.size, 2, none⟩ = some (.int .i64 0) ∧ (wz.alloc (.cells #[.int .i64 (k : Int), .int .i64 0, .int .i64 0, .int .i64 0, .int .i64 0, .int .i64 a1] 25)).cell? ⟨wz.heap.size, 3, none⟩ = some (.int .i64 0) ∧ (wz.alloc (.cells #[.int .i64 (k : Int), .int .i64 0, .int .i64 0, .int .i64 0, .int .i64 0, .int .i64 a1] 25)).cell? ⟨wz.heap.size, 4, none⟩ = some (.int .i64 0) ∧ (wz.alloc (.cells #[.int .i64 (k : Int), .int .i64 0, .int .i64 0, .int .i64 0, .int .i64 0, .int .i64 a1] 25)).cell? ⟨wz.heap.size, 5, none⟩ = some (.int .i64 a1) from by simp)
      have HBX := Lib.hid (HBZ.out.alloc HBZ.out.size (.cells #[.int .i64 (k : Int), .int .i64 0, .int .i64 0, .int .i64 0, .int .i64 0, .int .i64 a1] 25))
      go_wp2_with fail
      refine (HEN.out _).mono ?_
      rintro e w6 ⟨rfl, hb6⟩
      have HB6 := Lib.hid (HBX.out.trans (hb6.mono HBX.out.size))
      obtain ⟨x0, x1, x2, x3, x4, x5⟩ := HX.out
      have x0 := cell_keep hb6 x0
      have x1 := cell_keep hb6 x1
      have x2 := cell_keep hb6 x2
      have x3 := cell_keep hb6 x3
      have x4 := cell_keep hb6 x4
      have x5 := cell_keep hb6 x5
      clear hb6
      obtain ⟨C, hC⟩ : ∃ C, Ent.may ⟨(k : Int), 0, 0, 0, 0, a1⟩ = C := ⟨_, rfl⟩
      obtain ⟨T, hT⟩ : ∃ T, entS ⟨(k : Int), 0, 0, 0, 0, a1⟩ = T := ⟨_, rfl⟩
      have HH := Lib.hid (enhit_iff ⟨(k : Int), 0, 0, 0, 0, a1⟩ s.data.toList)
      rw [hC, hT] at HH
      rw [hC, hT] at HNX
      rw [hC] at HYX
      rw [hC, hT]
      clear hC hT
      by_cases h0 : C = true
      rotate_left
      ·have h0' : C = false := by simpa using h0
       subst h0'
       have hnh := Lib.hid (show ¬ (false = true ∧ T = s.data.toList) from fun z => h0 z.1)
       clear h0
       go_wp2
       go_roundw
       case rel => exact ⟨k + 1, by omega, by go_num, fun j hj he => HNX.out hnh j hj he, HB6.out⟩
       case measure => simp [intOf]; omega
      subst h0
      by_cases h1 : T = s.data.toList
      rotate_left
      ·have h1' : ((bsA T).toList == s.toList) = false := bs_ne (fun z => h1 z.symm)
       have hnh := Lib.hid (show ¬ (true = true ∧ T = s.data.toList) from fun z => h1 z.2)
       clear h1
       go_wp2
       go_roundw
       case rel => exact ⟨k + 1, by omega, by go_num, fun j hj he => HNX.out hnh j hj he, HB6.out⟩
       case measure => simp [intOf]; omega
      have h1' : ((bsA T).toList == s.toList) = true := by rw [bs_list, ba_list, h1]; simp
      have HD := Lib.hid (HYX.out (HH.out.1 ⟨rfl, h1⟩))
      clear h1
      obtain ⟨⟨r0, z0⟩, ⟨r1, z1⟩, ⟨r2, z2⟩, ⟨r3, z3⟩, ⟨r4, z4⟩, ⟨r5, z5⟩⟩ := HZ4.out.below HB6.out HS4.out
      obtain ⟨q0, q1, q2, q3, q4, q5⟩ := set6 r0 r1 r2 r3 r4 r5 (.int .i64 (k : Int)) (.int .i64 0) (.int .i64 0) (.int .i64 0) (.int .i64 0) (.int .i64 a1)
      go_wp2
      refine bodyPost_ret (by simp [results, Tryz.results14, go_sem, q0, q1, q2, q3, q4, q5] <;> rfl) rfl ?_
      rw [HD.out]
      exact ⟨rfl, (HB4.out.trans (HB6.out.mono HB4.out.size)).trans ((put6_below (w := w6) (Nat.le_refl W.heap.size) (.int .i64 (k : Int)) (.int .i64 0) (.int .i64 0) (.int .i64 0) (.int .i64 0) (.int .i64 a1)))⟩
     ·skip
      have p2 : (2 : Int) ≤ (k : Int) := by omega
      have p6 : ¬ (k : Int) ≤ 6 := by omega
      have p7 : (7 : Int) ≤ (k : Int) := by omega
      have p3 : ((k : Int) == 3) = false := by rw [hkj]; rfl
      have hcd : entCand k (w0 :: r) = ⟨(k : Int), 0, 0, 0, 0, a1⟩ := by
       subst hkj
       unfold entCand
       simp only [HA1.out, HPQ.out, HM3.out]
       rfl
      rw [hcd] at HNX HYX
      have HEN := Lib.hid (fun X => rentry_any ⟨(k : Int), 0, 0, 0, 0, a1⟩ X)
      unfold entA at HEN
      simp only at HEN
      clear hcd hkj
      have HX := Lib.hid (show (wz.alloc (.cells #[.int .i64 (k : Int), .int .i64 0, .int .i64 0, .int .i64 0, .int .i64 0, .int .i64 a1] 25)).cell? ⟨wz.heap.size, 0, none⟩ = some (.int .i64 (k : Int)) ∧ (wz.alloc (.cells #[.int .i64 (k : Int), .int .i64 0, .int .i64 0, .int .i64 0, .int .i64 0, .int .i64 a1] 25)).cell? ⟨wz.heap.size, 1, none⟩ = some (.int .i64 0) ∧ (wz.alloc (.cells #[.int .i64 (k : Int), .int .i64 0, .int .i64 0, .int .i64 0, .int .i64 0, .int .i64 a1] 25)).cell? ⟨wz.heap.size, 2, none⟩ = some (.int .i64 0) ∧ (wz.alloc (.cells #[.int .i64 (k : Int), .int .i64 0, .int .i64 0, .int .i64 0, .int .i64 0, .int .i64 a1] 25)).cell? ⟨wz.heap.size, 3, none⟩ = some (.int .i64 0) ∧ (wz.alloc (.cells #[.int .i64 (k : Int), .int .i64 0, .int .i64 0, .int .i64 0, .int .i64 0, .int .i64 a1] 25)).cell? ⟨wz.heap.size, 4, none⟩ = some (.int .i64 0) ∧ (wz.alloc (.cells #[.int .i64 (k : Int), .int .i64 0, .int .i64 0, .int .i64 0, .int .i64 0, .int .i64 a1] 25)).cell? ⟨wz.heap.size, 5, none⟩ = some (.int .i64 a1) from by simp)
      have HBX := Lib.hid (HBZ.out.alloc HBZ.out.size (.cells #[.int .i64 (k : Int), .int .i64 0, .int .i64 0, .int .i64 0, .int .i64 0, .int .i64 a1] 25))
      go_wp2_with fail
      refine (HEN.out _).mono ?_
      rintro e w6 ⟨rfl, hb6⟩
      have HB6 := Lib.hid (HBX.out.trans (hb6.mono HBX.out.size))
      obtain ⟨x0, x1, x2, x3, x4, x5⟩ := HX.out
      have x0 := cell_keep hb6 x0
      have x1 := cell_keep hb6 x1
      have x2 := cell_keep hb6 x2
      have x3 := cell_keep hb6 x3
      have x4 := cell_keep hb6 x4
      have x5 := cell_keep hb6 x5
      clear hb6
      obtain ⟨C, hC⟩ : ∃ C, Ent.may ⟨(k : Int), 0, 0, 0, 0, a1⟩ = C := ⟨_, rfl⟩
      obtain ⟨T, hT⟩ : ∃ T, entS ⟨(k : Int), 0, 0, 0, 0, a1⟩ = T := ⟨_, rfl⟩
      have HH := Lib.hid (enhit_iff ⟨(k : Int), 0, 0, 0, 0, a1⟩ s.data.toList)
      rw [hC, hT] at HH
      rw [hC, hT] at HNX
      rw [hC] at HYX
      rw [hC, hT]
      clear hC hT
      by_cases h0 : C = true
      rotate_left
      ·have h0' : C = false := by simpa using h0
       subst h0'
       have hnh := Lib.hid (show ¬ (false = true ∧ T = s.data.toList) from fun z => h0 z.1)
       clear h0
       go_wp2
       go_roundw
       case rel => exact ⟨k + 1, by omega, by go_num, fun j hj he => HNX.out hnh j hj he, HB6.out⟩
       case measure => simp [intOf]; omega
      subst h0
      by_cases h1 : T = s.data.toList
      rotate_left
      ·have h1' : ((bsA T).toList == s.toList) = false := bs_ne (fun z => h1 z.symm)
       have hnh := Lib.hid (show ¬ (true = true ∧ T = s.data.toList) from fun z => h1 z.2)
       clear h1
       go_wp2
       go_roundw
       case rel => exact ⟨k + 1, by omega, by go_num, fun j hj he => HNX.out hnh j hj he, HB6.out⟩
       case measure => simp [intOf]; omega
      have h1' : ((bsA T).toList == s.toList) = true := by rw [bs_list, ba_list, h1]; simp
      have HD := Lib.hid (HYX.out (HH.out.1 ⟨rfl, h1⟩))
      clear h1
      obtain ⟨⟨r0, z0⟩, ⟨r1, z1⟩, ⟨r2, z2⟩, ⟨r3, z3⟩, ⟨r4, z4⟩, ⟨r5, z5⟩⟩ := HZ4.out.below HB6.out HS4.out
      obtain ⟨q0, q1, q2, q3, q4, q5⟩ := set6 r0 r1 r2 r3 r4 r5 (.int .i64 (k : Int)) (.int .i64 0) (.int .i64 0) (.int .i64 0) (.int .i64 0) (.int .i64 a1)
      go_wp2
      refine bodyPost_ret (by simp [results, Tryz.results14, go_sem, q0, q1, q2, q3, q4, q5] <;> rfl) rfl ?_
      rw [HD.out]
      exact ⟨rfl, (HB4.out.trans (HB6.out.mono HB4.out.size)).trans ((put6_below (w := w6) (Nat.le_refl W.heap.size) (.int .i64 (k : Int)) (.int .i64 0) (.int .i64 0) (.int .i64 0) (.int .i64 0) (.int .i64 a1)))⟩
   exact AllReadyN.nil
  exact AllReadyN.nil
end Go.Proofs.YtjpjlfjaapfnkaaGreatDoor

/-
  Resources: the code's and the document's. No conditions beyond those that each theorem states.
-/
import Derived.Test.YtjpjlfjaapfnkaaGreatDoorDMA
import Derived.Test.YtjpjlfjaapfnkaaGreatDoorDMB
import Derived.LoopTactic
import Derived.Lib.Walk
import Derived.Lib.SliceRun
import Derived.Laws.BytesArg
import Derived.Deep.QuietTactic
import Derived.BigQuiet
set_option linter.unusedVariables false
set_option linter.unusedSimpArgs false
namespace Go.Proofs.YtjpjlfjaapfnkaaGreatDoor
open Go.ChangeShapes Go.WideShapes Go.ChangeAt Go.RowKit
def digs (n : Nat) : ByteArray := ⟨(digL n).toArray⟩
theorem digs_size (n : Nat) : (digs n).size ≤ 3 := by
 have := dig_len n
 show (digL n).toArray.size ≤ 3
 simpa using this
theorem conv_one {W : World} {b : Nat} (X : Int) (h : W.cell? ⟨b, 0, none⟩ = some (.int .u8 X)) :
 (convert 57 9 (.slice (some ⟨b, 0, none⟩) 1 1)).run Tryz.prog W = .ok (.string (strOfNums [X])) W :=
 run_convert_bytes_arg W 57 5 Tryz.underlying57 Tryz.underlying5 b 0 1 1 [X] rfl (fun i hi => by
  cases i with
  | zero => exact h
  | succ i => omega) 9 Tryz.underlying9
theorem str_one (k : Nat) : strOfNums [(48 + (k : Int))] = ⟨#[dg k]⟩ := by
 have : (48 + (k : Int)).toNat = 48 + k := by omega
 simp [strOfNums, dg, this]
theorem digs_small {n : Nat} (h : n < 10) : digs n = ⟨#[dg n]⟩ := by unfold digs digL; rw [if_pos h]
theorem digs_more {n : Nat} (h : 10 ≤ n) (h2 : n < 1000) : digs (n / 10) ++ ⟨#[dg (n % 10)]⟩ = digs n := by
 have e : ∀ a b : List UInt8, (⟨a.toArray⟩ : ByteArray) ++ ⟨b.toArray⟩ = ⟨(a ++ b).toArray⟩ := fun a b => by
  apply ByteArray.ext; simp
 unfold digs
 rw [show (#[dg (n % 10)] : Array UInt8) = [dg (n % 10)].toArray from rfl, e]
 congr 2
 unfold digL
 by_cases h3 : n < 100
 ·rw [if_pos (by omega), if_neg (by omega), if_pos h3]; rfl
 ·rw [if_neg (by omega), if_pos (by omega), if_neg (by omega), if_neg h3, show n / 10 / 10 = n / 100 by omega]; rfl
set_option maxRecDepth 100000 in
set_option maxHeartbeats 400000 in
theorem digits1 (n : Nat) (w : World) (h : n < 10) :
 Calls Tryz.prog 72 #[.int .i64 n] w fun e w' => e = .returned (.string (digs n)) ∧ Below w.heap.size w w' := by
 have h' : (n : Int) < 10 := by omega
 have hb : Below w.heap.size w (w.alloc (.cells #[.int .u8 (48 + (n : Int))] 5)) := (Below.refl _ _).alloc (Nat.le_refl _) _
 have hcv := conv_one (W := w.alloc (.cells #[.int .u8 (48 + (n : Int))] 5)) (b := w.heap.size) (48 + (n : Int)) (by simp)
 rw [str_one, ← digs_small h] at hcv
 go_enter Tryz.func72, Tryz.ntmps72
 go_wp2
 go_ret
 exact ⟨rfl, hb⟩
set_option maxRecDepth 100000 in
set_option maxHeartbeats 300000 in
theorem digits_step (n : Nat) (w : World) (h : 10 ≤ n) (h2 : n < 1000) (HC : ∀ w, Calls Tryz.prog 72 #[.int .i64 (n / 10 : Nat)] w fun e w' => e = .returned (.string (digs (n / 10))) ∧ Below w.heap.size w w') :
 Calls Tryz.prog 72 #[.int .i64 n] w fun e w' => e = .returned (.string (digs n)) ∧ Below w.heap.size w w' := by
 have h' : ¬ (n : Int) < 10 := by omega
 have H := Lib.hid HC
 have hda := digs_more h h2
 rw [← str_one (n % 10)] at hda
 have hsz := digs_size (n / 10)
 have hsz2 : (strOfNums [(48 + ((n % 10 : Nat) : Int))]).size = 1 := by rw [str_one]; rfl
 have hq : IntKind.i64.wrap ((n : Int) / 10) = ((n / 10 : Nat) : Int) := by rw [IntKind.wrap_i64]; omega
 have hr : (n : Int).tmod 10 = ((n % 10 : Nat) : Int) := by rw [Int.tmod_eq_emod_of_nonneg (by omega)]; omega
 have hd : n % 10 < 10 := Nat.mod_lt _ (by omega)
 have HDA := Lib.hid hda
 clear HC hda
 generalize n / 10 = q at *
 generalize n % 10 = d at *
 have hs : IntKind.i64.wrap (48 + (d : Int)) = 48 + d := by rw [IntKind.wrap_i64]; omega
 have hu : IntKind.u8.wrap (48 + (d : Int)) = 48 + d := by rw [IntKind.wrap_u8]; omega
 generalize hST : strOfNums [(48 + (d : Int))] = ST at *
 have hns : ¬ 9223372036854775807 < (digs q).size + ST.size := by omega
 have hda := HDA.out
 clear hsz hsz2
 go_enter Tryz.func72, Tryz.ntmps72
 go_wp2
 refine wp_region_N (S := (fun _ => True)) (fun i => true) (by kernel_rfl) ?_ (fun hHeld => ?_)
 ·(try dsimp only)
  try trivial
 refine tk (i := 0) (v := ?_) rfl (by kernel_rfl) (fun _ _ _ h => h) (Or.inl ⟨by first | kernel_rfl | rfl, ?_⟩) (by assumption) ?_
 rotate_left
 focus intro w hSw; (try dsimp only at hSw); go_simp; try with_reducible rfl
 try (unfold Act.put; dsimp only)
 refine tk (i := 1) (v := ?_) rfl (by kernel_rfl) (fun _ _ _ h => h) (Or.inl ⟨by first | kernel_rfl | rfl, ?_⟩) (by assumption) ?_
 rotate_left
 focus intro w hSw; (try dsimp only at hSw); go_simp; try with_reducible rfl
 try (unfold Act.put; dsimp only)
 refine tk (i := 3) (v := ?_) rfl (by kernel_rfl) (fun _ _ _ h => h) (Or.inl ⟨by first | kernel_rfl | rfl, ?_⟩) (by assumption) ?_
 rotate_left
 focus intro w hSw; (try dsimp only at hSw); go_simp; try with_reducible rfl
 try (unfold Act.put; dsimp only)
 refine tk (i := 4) (v := ?_) rfl (by kernel_rfl) (fun _ _ _ h => h) (Or.inl ⟨by first | kernel_rfl | rfl, ?_⟩) (by assumption) ?_
 rotate_left
 focus intro w hSw; (try dsimp only at hSw); go_simp; try with_reducible rfl
 try (unfold Act.put; dsimp only)
 refine tk (i := 5) (v := ?_) rfl (by kernel_rfl) (fun _ _ _ h => h) (Or.inl ⟨by first | kernel_rfl | rfl, ?_⟩) (by assumption) ?_
 rotate_left
 focus intro w hSw; (try dsimp only at hSw); go_simp; try with_reducible rfl
 try (unfold Act.put; dsimp only)
 refine tk (i := 6) (v := ?_) rfl (by kernel_rfl) (fun _ _ _ h => h) (Or.inl ⟨by first | kernel_rfl | rfl, ?_⟩) (by assumption) ?_
 rotate_left
 focus intro w hSw; (try dsimp only at hSw); go_simp; try with_reducible rfl
 try (unfold Act.put; dsimp only)
 refine wpAnyN_ready (rs := [2, 7]) (by kernel_rfl) (by simp) ?_
 refine AllReadyN.cons rfl (fun K hK => ?_) ?_
 ·go_simp
  go_at_call 72
  refine (H.out _).mono ?_
  rintro e w5 ⟨rfl, hb5⟩
  have hbw5 : Below w.heap.size w w5 := Below.trans (show Below w.heap.size w _ by go_grown) (hb5.mono (by first | omega | (simp; done) | (simp; omega)))
  dsimp only
  refine hK.out _ _ ?_ (fun hHeld => ?_)
  ·(try dsimp only)
   try trivial
  clear hK K
  (try change wpAnyN _ _ _ _ _ _ _ _ (Act.put _ (some 12) _) _)
  try (unfold Act.put; dsimp only)
  refine wpAnyN_ready (rs := [7]) (by kernel_rfl) (by simp) ?_
  refine AllReadyN.cons rfl (fun K hK => ?_) ?_
  ·go_simp
   refine hK.out _ _ ?_ (fun hHeld => ?_)
   ·(try dsimp only)
    try trivial
   clear hK K
   (try change wpAnyN _ _ _ _ _ _ _ _ (Act.put _ (some 17) _) _)
   try (unfold Act.put; dsimp only)
   refine wpAnyN_ready (rs := [8]) (by kernel_rfl) (by simp) ?_
   refine AllReadyN.cons rfl (fun K hK => ?_) ?_
   ·go_simp
    rw [conv_one (48 + (d : Int)) (by first | (simp; done) | (refine cell_keep hb5 ?_; simp; done)), hST]
    go_simp
    refine hK.out _ _ ?_ (fun hHeld => ?_)
    ·(try dsimp only)
     try trivial
    clear hK K
    (try change wpAnyN _ _ _ _ _ _ _ _ (Act.put _ (some 18) _) _)
    try (unfold Act.put; dsimp only)
    refine tk (i := 9) (v := ?_) rfl (by kernel_rfl) (fun _ _ _ h => h) (Or.inl ⟨by first | kernel_rfl | rfl, ?_⟩) (by assumption) ?_
    rotate_left
    focus intro w hSw; (try dsimp only at hSw); go_simp; try with_reducible rfl
    try (unfold Act.put; dsimp only)
    refine tk (i := 10) (v := ?_) rfl (by kernel_rfl) (fun _ _ _ h => h) (Or.inl ⟨by first | kernel_rfl | rfl, ?_⟩) (by assumption) ?_
    rotate_left
    focus intro w hSw; (try dsimp only at hSw); go_simp; try with_reducible rfl
    try (unfold Act.put; dsimp only)
    refine wpAnyN_done (by kernel_rfl) ?_ _
    go_wp2
    go_ret
    exact ⟨rfl, by first | exact hbw5 | exact hbw5.alloc hbw5.size _⟩
   exact AllReadyN.nil
  exact AllReadyN.nil
 refine AllReadyN.cons rfl (fun K hK => ?_) ?_
 ·go_simp
  refine hK.out _ _ ?_ (fun hHeld => ?_)
  ·(try dsimp only)
   try trivial
  clear hK K
  (try change wpAnyN _ _ _ _ _ _ _ _ (Act.put _ (some 17) _) _)
  try (unfold Act.put; dsimp only)
  refine wpAnyN_ready (rs := [2, 8]) (by kernel_rfl) (by simp) ?_
  refine AllReadyN.cons rfl (fun K hK => ?_) ?_
  ·go_simp
   go_at_call 72
   refine (H.out _).mono ?_
   rintro e w5 ⟨rfl, hb5⟩
   have hbw5 : Below w.heap.size w w5 := Below.trans (show Below w.heap.size w _ by go_grown) (hb5.mono (by first | omega | (simp; done) | (simp; omega)))
   dsimp only
   refine hK.out _ _ ?_ (fun hHeld => ?_)
   ·(try dsimp only)
    try trivial
   clear hK K
   (try change wpAnyN _ _ _ _ _ _ _ _ (Act.put _ (some 12) _) _)
   try (unfold Act.put; dsimp only)
   refine wpAnyN_ready (rs := [8]) (by kernel_rfl) (by simp) ?_
   refine AllReadyN.cons rfl (fun K hK => ?_) ?_
   ·go_simp
    rw [conv_one (48 + (d : Int)) (by first | (simp; done) | (refine cell_keep hb5 ?_; simp; done)), hST]
    go_simp
    refine hK.out _ _ ?_ (fun hHeld => ?_)
    ·(try dsimp only)
     try trivial
    clear hK K
    (try change wpAnyN _ _ _ _ _ _ _ _ (Act.put _ (some 18) _) _)
    try (unfold Act.put; dsimp only)
    refine tk (i := 9) (v := ?_) rfl (by kernel_rfl) (fun _ _ _ h => h) (Or.inl ⟨by first | kernel_rfl | rfl, ?_⟩) (by assumption) ?_
    rotate_left
    focus intro w hSw; (try dsimp only at hSw); go_simp; try with_reducible rfl
    try (unfold Act.put; dsimp only)
    refine tk (i := 10) (v := ?_) rfl (by kernel_rfl) (fun _ _ _ h => h) (Or.inl ⟨by first | kernel_rfl | rfl, ?_⟩) (by assumption) ?_
    rotate_left
    focus intro w hSw; (try dsimp only at hSw); go_simp; try with_reducible rfl
    try (unfold Act.put; dsimp only)
    refine wpAnyN_done (by kernel_rfl) ?_ _
    go_wp2
    go_ret
    exact ⟨rfl, by first | exact hbw5 | exact hbw5.alloc hbw5.size _⟩
   exact AllReadyN.nil
  refine AllReadyN.cons rfl (fun K hK => ?_) ?_
  ·go_simp
   rw [conv_one (48 + (d : Int)) (by first | (simp; done) | (refine cell_keep hb5 ?_; simp; done)), hST]
   go_simp
   refine hK.out _ _ ?_ (fun hHeld => ?_)
   ·(try dsimp only)
    try trivial
   clear hK K
   (try change wpAnyN _ _ _ _ _ _ _ _ (Act.put _ (some 18) _) _)
   try (unfold Act.put; dsimp only)
   refine wpAnyN_ready (rs := [2]) (by kernel_rfl) (by simp) ?_
   refine AllReadyN.cons rfl (fun K hK => ?_) ?_
   ·go_simp
    go_at_call 72
    refine (H.out _).mono ?_
    rintro e w5 ⟨rfl, hb5⟩
    have hbw5 : Below w.heap.size w w5 := Below.trans (show Below w.heap.size w _ by go_grown) (hb5.mono (by first | omega | (simp; done) | (simp; omega)))
    dsimp only
    refine hK.out _ _ ?_ (fun hHeld => ?_)
    ·(try dsimp only)
     try trivial
    clear hK K
    (try change wpAnyN _ _ _ _ _ _ _ _ (Act.put _ (some 12) _) _)
    try (unfold Act.put; dsimp only)
    refine tk (i := 9) (v := ?_) rfl (by kernel_rfl) (fun _ _ _ h => h) (Or.inl ⟨by first | kernel_rfl | rfl, ?_⟩) (by assumption) ?_
    rotate_left
    focus intro w hSw; (try dsimp only at hSw); go_simp; try with_reducible rfl
    try (unfold Act.put; dsimp only)
    refine tk (i := 10) (v := ?_) rfl (by kernel_rfl) (fun _ _ _ h => h) (Or.inl ⟨by first | kernel_rfl | rfl, ?_⟩) (by assumption) ?_
    rotate_left
    focus intro w hSw; (try dsimp only at hSw); go_simp; try with_reducible rfl
    try (unfold Act.put; dsimp only)
    refine wpAnyN_done (by kernel_rfl) ?_ _
    go_wp2
    go_ret
    exact ⟨rfl, by first | exact hbw5 | exact hbw5.alloc hbw5.size _⟩
   exact AllReadyN.nil
  exact AllReadyN.nil
 exact AllReadyN.nil
theorem digits_any (n : Nat) (w : World) (h : n < 1000) :
 Calls Tryz.prog 72 #[.int .i64 n] w fun e w' => e = .returned (.string (digs n)) ∧ Below w.heap.size w w' := by
 by_cases h1 : n < 10
 ·exact digits1 n w h1
 ·refine digits_step n w (by omega) h fun w => ?_
  by_cases h2 : n / 10 < 10
  ·exact digits1 _ w h2
  ·exact digits_step _ w (by omega) (by omega) fun w => digits1 _ w (by omega)
end Go.Proofs.YtjpjlfjaapfnkaaGreatDoor
namespace Go.Proofs.YtjpjlfjaapfnkaaGreatDoor
open Go.ChangeShapes Go.WideShapes Go.ChangeAt Go.RowKit
theorem goesL_yes {p : List UInt8} {k : Nat} (hk : k < 250) (h : goT p (k + 1) = true) : goesL p = true := by
 unfold goesL; rw [List.any_eq_true]; exact ⟨k, List.mem_range.2 hk, h⟩
theorem goesL_no {p : List UInt8} (h : ∀ t, t < 250 → goT p (t + 1) = false) : goesL p = false := by
 unfold goesL
 rw [List.any_eq_false]
 intro t ht
 rw [h t (List.mem_range.1 ht)]; decide
theorem ext_take (a : ByteArray) (n : Nat) : (a.extract 0 n).toList = a.data.toList.take n := by
 rw [ByteArray.toList_eq]; simp
theorem ext_drop (a : ByteArray) (n : Nat) : (a.extract n a.size).toList = a.data.toList.drop n := by
 rw [ByteArray.toList_eq]; simp
 exact List.take_of_length_le (by simp)
theorem ext_drop_data (a : ByteArray) (n : Nat) : (a.extract n a.size).data.toList = a.data.toList.drop n := by
 rw [← ByteArray.toList_eq, ext_drop]
theorem beq_iff {a b : List UInt8} : (a == b) = true ↔ a = b := by simp
theorem beq_no {a b : List UInt8} (h : (a == b) = false) : a ≠ b := by simpa using h
set_option maxRecDepth 100000 in
set_option maxHeartbeats 1000000 in
theorem goes_any (s : ByteArray) (w : World) (hs : s.size ≤ 1000000) :
 Calls Tryz.prog 78 #[.string s] w fun e w' => e = .returned (.bool (goesL s.data.toList)) ∧ Below w.heap.size w w' := by
 have hsz : s.data.toList.length = s.size := by simp
 have HSZ := Lib.hid hsz
 clear hsz
 go_enter Tryz.func78, Tryz.ntmps78
 go_wp2
 go_loopw [3] (fun i wr => Below w.heap.size w wr ∧ ∃ k : Nat, k ≤ 250 ∧ i = .int .i64 (k + 1) ∧ ∀ t, t < k → goT s.data.toList (t + 1) = false) (fun i _ => 252 - (intOf i).toNat)
 case atStart => exact ⟨Below.refl _ _, 0, by omega, rfl, fun t h => by omega⟩
 case round =>
  obtain ⟨hbr, k, hk, rfl, hno⟩ := hrel
  have HNO := Lib.hid hno
  have hsr := hbr.size
  clear hno
  by_cases hlt : k < 250
  ·have hlt' : (k : Int) + 1 < 251 := by omega
   have hk1 : ((k : Int) + 1) = ((k + 1 : Nat) : Int) := by omega
   rw [hk1] at hlt' ⊢
   have HD := Lib.hid (fun W => digits_any (k + 1) W (by omega))
   have hal : (digs (k + 1)).size ≤ 3 := digs_size _
   have hat : (digs (k + 1)).data.toList = digL (k + 1) := by simp [digs]
   have HAT := Lib.hid hat
   clear hat hk1
   generalize hK : k + 1 = K at *
   have HK := Lib.hid hK
   clear hK
   generalize digs K = a at *
   go_wp2_with fail
   refine (HD.out _).mono ?_
   rintro e w5 ⟨rfl, hb5⟩
   have hb5' : Below w.heap.size w w5 := hbr.trans (hb5.mono hsr)
   have hasz : a.size = (digL K).length := by rw [← HAT.out]; simp
   have hGT : goT s.data.toList K = if s.size ≤ a.size then decide ((digL K).take s.size = s.data.toList)
       else decide (s.data.toList.take a.size = digL K) && decide (s.data.toList[a.size]? = some 46) && (List.range 250).any fun r => goN (s.data.toList.drop (a.size + 1)) (r + 1) := by
    unfold goT; rw [HSZ.out, hasz]
   have HGT := Lib.hid hGT
   clear hGT hasz
   by_cases hle : s.size ≤ a.size
   ·have hle' : (s.size : Int) ≤ a.size := by omega
    rcases hq : ((a.extract 0 s.size).toList == s.toList) with _ | _
    ·have HG := Lib.hid (show goT s.data.toList K = false by
      rw [HGT.out, if_pos hle, ← HAT.out, ← ext_take, ← ByteArray.toList_eq]
      exact decide_eq_false (beq_no hq))
     go_wp2
     refine ⟨⟨hb5', k + 1, by omega, by have := HK.out; congr 1; omega, fun t ht => ?_⟩, by have := HK.out; simp [intOf]; omega⟩
     rcases Nat.lt_or_ge t k with h | h
     ·exact HNO.out t h
     ·rw [show t + 1 = K by have := HK.out; omega]; exact HG.out
    ·have HG := Lib.hid (show goT s.data.toList K = true by
      rw [HGT.out, if_pos hle, ← HAT.out, ← ext_take, ← ByteArray.toList_eq]
      exact decide_eq_true (beq_iff.1 hq))
     have HY := Lib.hid (goesL_yes (k := k) hlt (by rw [HK.out]; exact HG.out))
     go_wp2
     go_ret
     rw [HY.out]
     exact ⟨rfl, hb5'⟩
   ·have hle' : ¬ (s.size : Int) ≤ a.size := by omega
    rcases hq : ((s.extract 0 a.size).toList == a.toList) with _ | _
    ·have HG := Lib.hid (show goT s.data.toList K = false by
      rw [HGT.out, if_neg hle, decide_eq_false]
      ·rfl
      ·rw [← HAT.out, ← ext_take, ← ByteArray.toList_eq]; exact beq_no hq)
     go_wp2
     refine ⟨⟨hb5', k + 1, by omega, by have := HK.out; congr 1; omega, fun t ht => ?_⟩, by have := HK.out; simp [intOf]; omega⟩
     rcases Nat.lt_or_ge t k with h | h
     ·exact HNO.out t h
     ·rw [show t + 1 = K by have := HK.out; omega]; exact HG.out
    ·have ht : s.data.toList.take a.size = digL K := by
      rw [← HAT.out, ← ext_take, ← ByteArray.toList_eq]; exact beq_iff.1 hq
     have hal' : a.size < s.size := by omega
     obtain ⟨c, hc⟩ : ∃ c, s[a.size] = c := ⟨_, rfl⟩
     have hget : s.data.toList[a.size]? = some c := by
      rw [List.getElem?_eq_getElem (by rw [HSZ.out]; exact hal'), ← hc]; simp; rfl
     by_cases hc46 : c = 46
     ·subst hc46
      have HGR := Lib.hid (show goT s.data.toList K = (List.range 250).any fun r => goN (s.data.toList.drop (a.size + 1)) (r + 1) by
       rw [HGT.out, if_neg hle, decide_eq_true ht, decide_eq_true hget]; rfl)
      clear hget ht
      obtain ⟨kk, hkk⟩ : ∃ kk, s.extract (a.size + 1) s.size = kk := ⟨_, rfl⟩
      have HKK := Lib.hid (show kk.data.toList = s.data.toList.drop (a.size + 1) by rw [← hkk]; exact ext_drop_data _ _)
      have hkl : kk.data.toList.length = kk.size := by simp
      have HKL := Lib.hid hkl
      have hks : kk.size ≤ 1000000 := by rw [← hkl, HKK.out]; simp; omega
      clear hkl
      go_wp2
      go_loopw [5] (fun i wz => Below w.heap.size w wz ∧ ∃ j : Nat, j ≤ 250 ∧ i = .int .i64 (j + 1) ∧ ∀ r, r < j → goN kk.data.toList (r + 1) = false) (fun i _ => 252 - (intOf i).toNat)
      case atStart => exact ⟨hb5', 0, by omega, rfl, fun t h => by omega⟩
      case round =>
       obtain ⟨hbz, j, hj, rfl, hnr⟩ := hrel
       have HNR := Lib.hid hnr
       have hsz := hbz.size
       clear hnr
       by_cases hlj : j < 250
       ·have hlj' : (j : Int) + 1 < 251 := by omega
        have hj1 : ((j : Int) + 1) = ((j + 1 : Nat) : Int) := by omega
        rw [hj1] at hlj' ⊢
        have HD2 := Lib.hid (fun W => digits_any (j + 1) W (by omega))
        have hbl : (digs (j + 1)).size ≤ 3 := digs_size _
        have HBT := Lib.hid (show (digs (j + 1)).data.toList = digL (j + 1) by simp [digs])
        clear hj1
        generalize hJ : j + 1 = J at *
        have HJ := Lib.hid hJ
        clear hJ
        generalize digs J = b at *
        have hbsz : b.size = (digL J).length := by rw [← HBT.out]; simp
        have hGN : goN kk.data.toList J = (decide (kk.size ≤ b.size) && decide (b.data.toList.take kk.size = kk.data.toList)) := by
         unfold goN; rw [HKL.out, hbsz, HBT.out]
        have HGN := Lib.hid hGN
        clear hGN hbsz
        go_wp2_with fail
        refine (HD2.out _).mono ?_
        rintro e w6 ⟨rfl, hb6⟩
        have hb6' : Below w.heap.size w w6 := hbz.trans (hb6.mono hsz)
        by_cases hkb : kk.size ≤ b.size
        ·have hkb' : (kk.size : Int) ≤ b.size := by omega
         rcases hq2 : ((b.extract 0 kk.size).toList == kk.toList) with _ | _
         ·have HG := Lib.hid (show goN kk.data.toList J = false by
           rw [HGN.out, decide_eq_true hkb, decide_eq_false]
           ·rfl
           ·rw [← ext_take, ← ByteArray.toList_eq]; exact beq_no hq2)
          go_wp2
          refine ⟨⟨hb6', j + 1, by omega, by have := HJ.out; congr 1; omega, fun t ht => ?_⟩, by have := HJ.out; simp [intOf]; omega⟩
          rcases Nat.lt_or_ge t j with h | h
          ·exact HNR.out t h
          ·rw [show t + 1 = J by have := HJ.out; omega]; exact HG.out
         ·have hG : goN kk.data.toList J = true := by
           rw [HGN.out, decide_eq_true hkb, decide_eq_true]
           ·rfl
           ·rw [← ext_take, ← ByteArray.toList_eq]; exact beq_iff.1 hq2
          have HY := Lib.hid (goesL_yes (k := k) hlt (by
           rw [HK.out, HGR.out, List.any_eq_true]
           exact ⟨j, List.mem_range.2 hlj, by rw [HJ.out, ← HKK.out]; exact hG⟩))
          clear hG
          go_wp2
          go_ret
          rw [HY.out]
          exact ⟨rfl, hb6'⟩
        ·have hkb' : ¬ (kk.size : Int) ≤ b.size := by omega
         have HG := Lib.hid (show goN kk.data.toList J = false by rw [HGN.out, decide_eq_false hkb]; rfl)
         go_wp2
         refine ⟨⟨hb6', j + 1, by omega, by have := HJ.out; congr 1; omega, fun t ht => ?_⟩, by have := HJ.out; simp [intOf]; omega⟩
         rcases Nat.lt_or_ge t j with h | h
         ·exact HNR.out t h
         ·rw [show t + 1 = J by have := HJ.out; omega]; exact HG.out
       ·have hj2 : j = 250 := by omega
        subst hj2
        have HG := Lib.hid (show goT s.data.toList K = false by
         rw [HGR.out, List.any_eq_false]
         intro r hr
         rw [← HKK.out, HNR.out r (List.mem_range.1 hr)]; decide)
        have hb5' := hbz
        go_wp2
        refine ⟨⟨hb5', k + 1, by omega, by have := HK.out; congr 1; omega, fun t ht => ?_⟩, by have := HK.out; simp [intOf]; omega⟩
        rcases Nat.lt_or_ge t k with h | h
        ·exact HNO.out t h
        ·rw [show t + 1 = K by have := HK.out; omega]; exact HG.out
     ·have HG := Lib.hid (show goT s.data.toList K = false by
       rw [HGT.out, if_neg hle, hget, decide_eq_true ht, decide_eq_false (by simp [hc46])]; rfl)
      have hcc : ((c.toNat : Int) != 46) = true := by
       have : c.toNat ≠ 46 := fun h => hc46 (by have := UInt8.ofNat_toNat (x := c); rw [h] at this; exact this.symm)
       simp; omega
      clear hget ht
      go_wp2
      refine ⟨⟨hb5', k + 1, by omega, by have := HK.out; congr 1; omega, fun t ht => ?_⟩, by have := HK.out; simp [intOf]; omega⟩
      rcases Nat.lt_or_ge t k with h | h
      ·exact HNO.out t h
      ·rw [show t + 1 = K by have := HK.out; omega]; exact HG.out
  ·have hk2 : k = 250 := by omega
   subst hk2
   have HN := Lib.hid (goesL_no HNO.out)
   go_wp2
   go_ret
   rw [HN.out]
   exact ⟨rfl, hbr⟩
end Go.Proofs.YtjpjlfjaapfnkaaGreatDoor
namespace Go.Proofs.YtjpjlfjaapfnkaaGreatDoor
open Go.ChangeShapes Go.WideShapes Go.ChangeAt Go.RowKit
def textB (t r : Nat) : ByteArray := ⟨(textL t r).toArray⟩
theorem textB_row {t r : Nat} (h : ¬ r = 0) : (digs t ++ ⟨#[46]⟩) ++ digs r = textB t r := by
 have e : ∀ a b : List UInt8, (⟨a.toArray⟩ : ByteArray) ++ ⟨b.toArray⟩ = ⟨(a ++ b).toArray⟩ := fun a b => by
  apply ByteArray.ext; simp
 unfold digs textB textL
 rw [show (#[46] : Array UInt8) = [46].toArray from rfl, e, e, if_neg h]
 simp
theorem textB_tab (t : Nat) : digs t = textB t 0 := rfl
set_option maxRecDepth 100000 in
set_option maxHeartbeats 1000000 in
theorem text_any (t r : Nat) (w : World) (ht : t < 1000) (hr : r < 1000) :
 Calls Tryz.prog 36 #[.agg #[.int .i64 t, .int .i64 r]] w fun e w' => e = .returned (.string (textB t r)) ∧ Below w.heap.size w w' := by
 have hbA : Below w.heap.size w (w.alloc (.cells #[.int .i64 t, .int .i64 r] 23)) := (Below.refl _ _).alloc (Nat.le_refl _) _
 by_cases hr0 : r = 0
 ·subst hr0
  rw [← textB_tab]
  go_enter Tryz.func36, Tryz.ntmps36
  go_wp2_with fail
  refine (digits_any t _ ht).mono ?_
  rintro e w5 ⟨rfl, hb5⟩
  go_wp2
  go_ret
  exact ⟨rfl, hbA.trans (hb5.mono hbA.size)⟩
 ·have hr' : ((r : Int) == 0) = false := by simp; omega
  have HD1 := Lib.hid (fun W => digits_any t W ht)
  have HD2 := Lib.hid (fun W => digits_any r W hr)
  have hX := textB_row (t := t) hr0
  have h1 : ¬ 9223372036854775807 < (digs t).size + (⟨#[46]⟩ : ByteArray).size := by
   have := digs_size t
   rw [show (⟨#[46]⟩ : ByteArray).size = 1 from rfl]; omega
  have h1' : ¬ 9223372036854775807 < (digs t).size + 1 := by have := digs_size t; omega
  have h2 : ¬ 9223372036854775807 < (digs t ++ ⟨#[46]⟩ : ByteArray).size + (digs r).size := by
   have a1 := digs_size t
   have a2 := digs_size r
   rw [ByteArray.size_append, show (⟨#[46]⟩ : ByteArray).size = 1 from rfl]; omega
  have b0 : (w.alloc (.cells #[.int .i64 t, .int .i64 r] 23)).cell? ⟨w.heap.size, 0, none⟩ = some (.int .i64 t) := by simp
  have b1 : (w.alloc (.cells #[.int .i64 t, .int .i64 r] 23)).cell? ⟨w.heap.size, 1, none⟩ = some (.int .i64 r) := by simp
  generalize digs t = d1 at *
  generalize digs r = d2 at *
  obtain ⟨X, hXX⟩ : ∃ X, d1 ++ (⟨#[46]⟩ : ByteArray) = X := ⟨_, rfl⟩
  rw [hXX] at hX h2
  clear hr0
  go_enter Tryz.func36, Tryz.ntmps36
  go_wp2
  refine wp_region_N (S := (fun w' => w'.cell? ⟨w.heap.size, 0, none⟩ = some (.int .i64 t) ∧ w'.cell? ⟨w.heap.size, 1, none⟩ = some (.int .i64 r))) (fun i => true) (by kernel_rfl) ?_ (fun hHeld => ?_)
  ·(try dsimp only)
   first
    | (constructor <;> with_reducible assumption)
    | (refine ⟨cell_keep ?_ b0, cell_keep ?_ b1⟩ <;> (go_grown; done))
  refine tk (i := 0) (v := ?_) rfl (by kernel_rfl) (fun _ _ _ h => h) (Or.inl ⟨by first | kernel_rfl | rfl, ?_⟩) (by assumption) ?_
  rotate_left
  focus intro w hSw; (try dsimp only at hSw); go_simp; try with_reducible rfl
  try (unfold Act.put; dsimp only)
  refine tk (i := 1) (v := ?_) rfl (by kernel_rfl) (fun _ _ _ h => h) (Or.inl ⟨by first | kernel_rfl | rfl, ?_⟩) (by assumption) ?_
  rotate_left
  focus intro w hSw; (try dsimp only at hSw); go_simp; try with_reducible rfl
  try (unfold Act.put; dsimp only)
  refine tk (i := 4) (v := ?_) rfl (by kernel_rfl) (fun _ _ _ h => h) (Or.inl ⟨by first | kernel_rfl | rfl, ?_⟩) (by assumption) ?_
  rotate_left
  focus intro w hSw; (try dsimp only at hSw); go_simp; try with_reducible rfl
  try (unfold Act.put; dsimp only)
  refine tk (i := 5) (v := ?_) rfl (by kernel_rfl) (fun _ _ _ h => h) (Or.inl ⟨by first | kernel_rfl | rfl, ?_⟩) (by assumption) ?_
  rotate_left
  focus intro w hSw; (try dsimp only at hSw); go_simp; try with_reducible rfl
  try (unfold Act.put; dsimp only)
  refine wpAnyN_ready (rs := [2]) (by kernel_rfl) (by simp) ?_
  refine AllReadyN.cons rfl (fun K hK => ?_) ?_
  ·go_simp
   go_at_call 72
   refine (HD1.out _).mono ?_
   rintro e w5 ⟨rfl, hb5⟩
   have hbw : Below (w.alloc (.cells #[.int .i64 t, .int .i64 r] 23)).heap.size (w.alloc (.cells #[.int .i64 t, .int .i64 r] 23)) w5 := Below.trans (show Below _ _ _ by first | (go_grown; done) | exact hbw) (hb5.mono (by first | omega | (simp; done) | (simp; omega) | exact hbw.size))
   dsimp only
   refine hK.out _ _ ?_ (fun hHeld => ?_)
   ·(try dsimp only)
    first
     | (constructor <;> with_reducible assumption)
     | (refine ⟨cell_keep ?_ b0, cell_keep ?_ b1⟩ <;> (go_grown; done))
   clear hK K
   (try change wpAnyN _ _ _ _ _ _ _ _ (Act.put _ (some 11) _) _)
   try (unfold Act.put; dsimp only)
   refine tk (i := 3) (v := ?_) rfl (by kernel_rfl) (fun _ _ _ h => h) (Or.inl ⟨by first | kernel_rfl | rfl, ?_⟩) (by assumption) ?_
   rotate_left
   focus intro w hSw; (try dsimp only at hSw); go_simp; try with_reducible rfl
   try (unfold Act.put; dsimp only)
   refine wpAnyN_ready (rs := [6]) (by kernel_rfl) (by simp) ?_
   refine AllReadyN.cons rfl (fun K hK => ?_) ?_
   ·go_simp
    go_at_call 72
    refine (HD2.out _).mono ?_
    rintro e w5 ⟨rfl, hb5⟩
    have hbw : Below (w.alloc (.cells #[.int .i64 t, .int .i64 r] 23)).heap.size (w.alloc (.cells #[.int .i64 t, .int .i64 r] 23)) w5 := Below.trans (show Below _ _ _ by first | (go_grown; done) | exact hbw) (hb5.mono (by first | omega | (simp; done) | (simp; omega) | exact hbw.size))
    dsimp only
    refine hK.out _ _ ?_ (fun hHeld => ?_)
    ·(try dsimp only)
     first
      | (constructor <;> with_reducible assumption)
      | (refine ⟨cell_keep ?_ b0, cell_keep ?_ b1⟩ <;> (go_grown; done))
    clear hK K
    (try change wpAnyN _ _ _ _ _ _ _ _ (Act.put _ (some 15) _) _)
    try (unfold Act.put; dsimp only)
    refine tk (i := 7) (v := ?_) rfl (by kernel_rfl) (fun _ _ _ h => h) (Or.inl ⟨by first | kernel_rfl | rfl, ?_⟩) (by assumption) ?_
    rotate_left
    focus intro w hSw; (try dsimp only at hSw); go_simp; try with_reducible rfl
    try (unfold Act.put; dsimp only)
    refine tk (i := 8) (v := ?_) rfl (by kernel_rfl) (fun _ _ _ h => h) (Or.inl ⟨by first | kernel_rfl | rfl, ?_⟩) (by assumption) ?_
    rotate_left
    focus intro w hSw; (try dsimp only at hSw); go_simp; try with_reducible rfl
    try (unfold Act.put; dsimp only)
    refine wpAnyN_done (by kernel_rfl) ?_ _
    go_wp2
    go_ret
    exact ⟨rfl, hbA.trans (hbw.mono hbA.size)⟩
   exact AllReadyN.nil
  exact AllReadyN.nil
end Go.Proofs.YtjpjlfjaapfnkaaGreatDoor
namespace Go.Proofs.YtjpjlfjaapfnkaaGreatDoor
open Go.ChangeShapes Go.WideShapes Go.ChangeAt Go.RowKit
def FaultAt (w : World) (B g i : Nat) : Prop := B ≤ g ∧ g < w.heap.size ∧ w.cell? ⟨g, 0, none⟩ = some (.int .i64 i) ∧ w.cell? ⟨g, 1, none⟩ = some (.iface 70 (.int .i64 5))
theorem FaultAt.err {w : World} {B g i : Nat} (h : FaultAt w B g i) : ErrIs w (.iface 97 (.pointer (some ⟨g, 0, none⟩))) 5 i :=
 .inr (.inr ⟨g, rfl, by decide, by decide, h.2.2.1, h.2.2.2⟩)
theorem FaultAt.below {w w1 : World} {B g i : Nat} (h : FaultAt w B g i) (hb : Below w.heap.size w w1) : FaultAt w1 B g i :=
 ⟨h.1, Nat.lt_of_lt_of_le h.2.1 hb.size, (hb.cell (p := ⟨g, _, none⟩) h.2.1).trans h.2.2.1, (hb.cell (p := ⟨g, _, none⟩) h.2.1).trans h.2.2.2⟩
set_option maxHeartbeats 400000 in
theorem errForm_any (i : Nat) (w : World) :
 Calls Tryz.prog 96 #[.int .i64 i] w fun e w' => (∃ g, e = .returned (.iface 97 (.pointer (some ⟨g, 0, none⟩))) ∧ FaultAt w' w.heap.size g i) ∧ Below w.heap.size w w' := by
 have hb : Below w.heap.size w (w.alloc (.cells #[.int .i64 i, .iface 70 (.int .i64 5)] 101)) := (Below.refl _ _).alloc (Nat.le_refl _) _
 go_enter Tryz.func96, Tryz.ntmps96
 go_wp2
 go_ret
 exact ⟨⟨w.heap.size, rfl, Nat.le_refl _, by simp, by simp, by simp⟩, hb⟩
def NumIs (w w' : World) (e : Ending) : (Nat × Nat) ⊕ Nat → Prop
 | .inl (n, i) => e = .returned (.tuple #[.int .i64 n, .int .i64 i, .nilIface])
 | .inr i => ∃ g, e = .returned (.tuple #[.int .i64 0, .int .i64 0, .iface 97 (.pointer (some ⟨g, 0, none⟩))]) ∧ FaultAt w' w.heap.size g i
theorem numberL_fault {L : List UInt8} {pl j : Nat} (h : numL 0 pl (L.drop pl) = .inr j) : numberL L pl = .inr j := by unfold numberL; rw [h]
theorem numberL_stop {L : List UInt8} {pl m j : Nat} (h : numL 0 pl (L.drop pl) = .inl (m, j)) (hj : ¬ j = pl) : numberL L pl = .inl (m, j) := by unfold numberL; rw [h]; simp [hj]
theorem numberL_none {L : List UInt8} {pl m : Nat} (h : numL 0 pl (L.drop pl) = .inl (m, pl)) : numberL L pl = .inr pl := by unfold numberL; rw [h]; simp
set_option maxRecDepth 100000 in
set_option maxHeartbeats 1000000 in
theorem number_any (s : ByteArray) (pl : Nat) (w : World) (hs : s.size ≤ 140737488355328) (hp : pl ≤ s.size) :
 Calls Tryz.prog 95 #[.string s, .int .i64 pl, .int .i64 250] w fun e w' => NumIs w w' e (numberL s.data.toList pl) ∧ Below w.heap.size w w' := by
 have hsz : s.data.toList.length = s.size := by simp
 have HSZ := Lib.hid hsz
 clear hsz
 go_enter Tryz.func95, Tryz.ntmps95
 go_wp2
 go_loopw [9, 10] (fun n i wr => wr = w ∧ ∃ m j : Nat, n = .int .i64 m ∧ i = .int .i64 j ∧ pl ≤ j ∧ j ≤ s.size ∧ m ≤ 250 ∧ numL 0 pl (s.data.toList.drop pl) = numL m j (s.data.toList.drop j)) (fun _ i _ => s.size - (intOf i).toNat)
 case atStart => exact ⟨rfl, 0, pl, rfl, rfl, by omega, hp, by omega, rfl⟩
 case round =>
  obtain ⟨rfl, m, j, rfl, rfl, hpj, hj, hm, hL⟩ := hrel
  by_cases hjs : j < s.size
  ·have hjs' : (j : Int) < s.size := by omega
   have hget := drop_get (L := s.data.toList) (j := j) (by rw [HSZ.out]; exact hjs)
   obtain ⟨c, hc⟩ : ∃ c, s[j] = c := ⟨_, rfl⟩
   have hc2 : s.data.toList[j]'(by rw [HSZ.out]; exact hjs) = c := by rw [← hc]; simp; rfl
   rw [hc2] at hget
   rw [hget, numL_cons] at hL
   have HL := Lib.hid hL
   clear hget hc2 hL
   have hc256 : c.toNat < 256 := UInt8.toNat_lt c
   by_cases h48 : 48 ≤ c.toNat
   ·have h48' : (48 : Int) ≤ (c.toNat : Int) := by omega
    by_cases h57 : c.toNat ≤ 57
    ·have h57' : (c.toNat : Int) ≤ 57 := by omega
     have HL2 := HL.out
     rw [if_pos ⟨h48, h57⟩] at HL2
     unfold stepN at HL2
     rw [if_pos ⟨h48, h57⟩] at HL2
     have HLL := Lib.hid HL2
     clear HL2 HL
     have hu : IntKind.u8.wrap ((c.toNat : Int) - 48) = (c.toNat : Int) - 48 := by rw [IntKind.wrap_u8]; omega
     by_cases h0 : 10 * m + (c.toNat - 48) = 0
     ·have h0' : (10 : Int) * m + ((c.toNat : Int) - 48) = 0 := by omega
      have HLF := HLL.out
      rw [if_neg (by omega)] at HLF
      have HLG := Lib.hid (numberL_fault HLF)
      clear HLF HLL
      have hb : Below wr.heap.size wr (wr.alloc (.cells #[.int .i64 j, .iface 70 (.int .i64 5)] 101)) := (Below.refl _ _).alloc (Nat.le_refl _) _
      go_wp2
      go_ret3
      rw [HLG.out]
      exact ⟨⟨wr.heap.size, rfl, Nat.le_refl _, by simp, by simp, by simp⟩, hb⟩
     ·have h0' : ¬ (10 : Int) * m + ((c.toNat : Int) - 48) = 0 := by omega
      by_cases h250 : 10 * m + (c.toNat - 48) ≤ 250
      ·have h250' : ¬ (250 : Int) < 10 * m + ((c.toNat : Int) - 48) := by omega
       have HLF := HLL.out
       rw [if_pos ⟨by omega, h250⟩] at HLF
       have HLG := Lib.hid HLF
       clear HLF HLL
       go_wp2
       refine ⟨⟨trivial, 10 * m + (c.toNat - 48), j + 1, by congr 1; omega, by simp, by omega, by omega, h250, HLG.out⟩, by simp [intOf]; omega⟩
      ·have h250' : (250 : Int) < 10 * m + ((c.toNat : Int) - 48) := by omega
       have HLF := HLL.out
       rw [if_neg (by omega)] at HLF
       have HLG := Lib.hid (numberL_fault HLF)
       clear HLF HLL
       have hb : Below wr.heap.size wr (wr.alloc (.cells #[.int .i64 j, .iface 70 (.int .i64 5)] 101)) := (Below.refl _ _).alloc (Nat.le_refl _) _
       go_wp2
       go_ret3
       rw [HLG.out]
       exact ⟨⟨wr.heap.size, rfl, Nat.le_refl _, by simp, by simp, by simp⟩, hb⟩
    ·have h57' : ¬ (c.toNat : Int) ≤ 57 := by omega
     have HLF := HL.out
     rw [if_neg (by omega)] at HLF
     clear HL
     by_cases hjp : j = pl
     ·subst hjp
      have HLG := Lib.hid (numberL_none HLF)
      clear HLF
      have hb : Below wr.heap.size wr (wr.alloc (.cells #[.int .i64 j, .iface 70 (.int .i64 5)] 101)) := (Below.refl _ _).alloc (Nat.le_refl _) _
      go_wp2
      go_ret3
      rw [HLG.out]
      exact ⟨⟨wr.heap.size, rfl, Nat.le_refl _, by simp, by simp, by simp⟩, hb⟩
     ·have HLG := Lib.hid (numberL_stop HLF hjp)
      clear HLF
      have hjp' : ((j : Int) == pl) = false := by simp; omega
      go_wp2
      go_ret3
      rw [HLG.out]
      exact ⟨rfl, Below.refl _ _⟩
   ·have h48' : ¬ (48 : Int) ≤ (c.toNat : Int) := by omega
    have HLF := HL.out
    rw [if_neg (by omega)] at HLF
    clear HL
    by_cases hjp : j = pl
    ·subst hjp
     have HLG := Lib.hid (numberL_none HLF)
     clear HLF
     have hb : Below wr.heap.size wr (wr.alloc (.cells #[.int .i64 j, .iface 70 (.int .i64 5)] 101)) := (Below.refl _ _).alloc (Nat.le_refl _) _
     go_wp2
     go_ret3
     rw [HLG.out]
     exact ⟨⟨wr.heap.size, rfl, Nat.le_refl _, by simp, by simp, by simp⟩, hb⟩
    ·have HLG := Lib.hid (numberL_stop HLF hjp)
     clear HLF
     have hjp' : ((j : Int) == pl) = false := by simp; omega
     go_wp2
     go_ret3
     rw [HLG.out]
     exact ⟨rfl, Below.refl _ _⟩
  ·have hjs' : ¬ (j : Int) < s.size := by omega
   have HLF := hL
   rw [(List.drop_of_length_le (by rw [HSZ.out]; omega) : s.data.toList.drop j = [])] at HLF
   simp only [numL] at HLF
   clear hL
   by_cases hjp : j = pl
   ·subst hjp
    have HLG := Lib.hid (numberL_none HLF)
    clear HLF
    have hb : Below wr.heap.size wr (wr.alloc (.cells #[.int .i64 j, .iface 70 (.int .i64 5)] 101)) := (Below.refl _ _).alloc (Nat.le_refl _) _
    go_wp2
    go_ret3
    rw [HLG.out]
    exact ⟨⟨wr.heap.size, rfl, Nat.le_refl _, by simp, by simp, by simp⟩, hb⟩
   ·have HLG := Lib.hid (numberL_stop HLF hjp)
    clear HLF
    have hjp' : ((j : Int) == pl) = false := by simp; omega
    go_wp2
    go_ret3
    rw [HLG.out]
    exact ⟨rfl, Below.refl _ _⟩
end Go.Proofs.YtjpjlfjaapfnkaaGreatDoor
namespace Go.Proofs.YtjpjlfjaapfnkaaGreatDoor
open Go.ChangeShapes Go.WideShapes Go.ChangeAt Go.RowKit
theorem as_hit (e : Addr) (F : Nat) (w : World) (hE : ErrT w) (hF : w.cell? ⟨F, 0, none⟩ = some (.pointer none)) (hfz : w.frozen? ⟨F, 0, none⟩ = false) :
 Calls Tryz.prog 62 #[.iface 97 (.pointer (some e)), .iface 99 (.pointer (some ⟨F, 0, none⟩))] w fun ev w' => (ev = .returned (.bool true) ∧ w'.cell? ⟨F, 0, none⟩ = some (.pointer (some e))) ∧ w.grownBy w' (some F) := by
 refine (as_fault e ⟨F, 0, none⟩ (.pointer none) w hE hF hfz).mono ?_
 rintro ev w' ⟨rfl, hw'⟩
 have e0 : ∀ (W : World) (o : Obj) (v : Value), W.cell? ⟨F, 0, none⟩ = some v → (W.alloc o).cell? ⟨F, 0, none⟩ = some v := fun W o v h => (World.cell?_alloc_lt _ _ ⟨F, 0, none⟩ (lt_of_cell h)).trans h
 refine ⟨⟨rfl, ?_⟩, ?_⟩
 ·rw [← hw']
  refine World.cell?_setCell_same (w := _) (u := .pointer none) (h := ?_) ..
  exact e0 _ _ _ (e0 _ _ _ (e0 _ _ _ (e0 _ _ _ hF)))
 ·rw [← hw']
  exact gb_set (gb_alloc (gb_alloc (gb_alloc (gb_alloc (World.grownBy.refl _ _) _) _) _) _) _ _
theorem FaultAt.set {w : World} {B g i b o : Nat} {u : Value} (h : FaultAt w B g i) (hne : b ≠ g) : FaultAt (w.setCell ⟨b, o, none⟩ u) B g i :=
 ⟨h.1, by simpa using h.2.1, (World.cell?_setCell_other (h := by simp) ..).trans h.2.2.1, (World.cell?_setCell_other (h := by simp) ..).trans h.2.2.2⟩
theorem FaultAt.mono {w : World} {B B' g i : Nat} (h : FaultAt w B g i) (hB : B' ≤ B) : FaultAt w B' g i := ⟨by have := h.1; omega, h.2.1, h.2.2.1, h.2.2.2⟩
theorem FaultAt.drew {w : World} {B g i : Nat} (h : FaultAt w B g i) : FaultAt w.drew B g i := h
theorem FaultAt.kept {w w1 : World} {B g i F : Nat} (h : FaultAt w B g i) (hg : w.grownBy w1 (some F)) (hne : g ≠ F) : FaultAt w1 B g i :=
 ⟨h.1, Nat.lt_of_lt_of_le h.2.1 hg.size, hg.cell h.2.2.1 (fun e => hne (by simpa using e)), hg.cell h.2.2.2 (fun e => hne (by simpa using e))⟩
theorem set2 {W : World} {b : Nat} {x0 x1 : Value} (h0 : W.cell? ⟨b, 0, none⟩ = some x0) (h1 : W.cell? ⟨b, 1, none⟩ = some x1) (y0 y1 : Value) :
 ((W.setCell ⟨b, 0, none⟩ y0).setCell ⟨b, 1, none⟩ y1).cell? ⟨b, 0, none⟩ = some y0 ∧ ((W.setCell ⟨b, 0, none⟩ y0).setCell ⟨b, 1, none⟩ y1).cell? ⟨b, 1, none⟩ = some y1 := by
 simp [go_sem, h0, h1]
def ResIs (w w' : World) (e : Ending) : (Nat × Nat) ⊕ Nat → Prop
 | .inl (t, r) => e = .returned (.tuple #[.agg #[.int .i64 t, .int .i64 r], .nilIface])
 | .inr i => ∃ g, e = .returned (.tuple #[.agg #[.int .i64 0, .int .i64 0], .iface 97 (.pointer (some ⟨g, 0, none⟩))]) ∧ FaultAt w' w.heap.size g i
set_option maxRecDepth 100000 in
set_option maxHeartbeats 1000000 in
theorem parse_any (s : ByteArray) (w : World) (hE : ErrT w) (hs : s.size ≤ 140737488355328) :
 Calls Tryz.prog 75 #[.string s] w fun e w' => ResIs w w' e (parseL s.data.toList) ∧ Below w.heap.size w w' := by
 have hsz : s.data.toList.length = s.size := by simp
 have HSZ := Lib.hid hsz
 have HE := Lib.hid hE
 have hbA : Below w.heap.size w (w.alloc (.cells #[.int .i64 0, .int .i64 0] 23)) := (Below.refl _ _).alloc (Nat.le_refl _) _
 have HN := Lib.hid (fun (pl : Nat) (W : World) (hp : pl ≤ s.size) => number_any s pl W hs hp)
 clear hsz hE
 go_enter Tryz.func75, Tryz.ntmps75
 go_wp2_with fail
 refine (HN.out 0 _ (by omega)).mono ?_
 rintro e w5 ⟨hN, hb5⟩
 have hb5' : Below w.heap.size w w5 := hbA.trans (hb5.mono hbA.size)
 have r0 : w5.cell? ⟨w.heap.size, 0, none⟩ = some (.int .i64 0) := (hb5.cell (p := ⟨w.heap.size, 0, none⟩) (by simp)).trans (by simp)
 have r1 : w5.cell? ⟨w.heap.size, 1, none⟩ = some (.int .i64 0) := (hb5.cell (p := ⟨w.heap.size, 1, none⟩) (by simp)).trans (by simp)
 have hs5 : w.heap.size + 1 ≤ w5.heap.size := by have := hb5.size; simpa using this
 have HS5 := Lib.hid hs5
 have HR0 := Lib.hid r0
 have HR1 := Lib.hid r1
 have HZ0 := Lib.hid (show w5.frozen? ⟨w.heap.size, 0, none⟩ = false from (hb5.frozen (p := ⟨w.heap.size, 0, none⟩) (by simp)).trans (by simp))
 have HZ1 := Lib.hid (show w5.frozen? ⟨w.heap.size, 1, none⟩ = false from (hb5.frozen (p := ⟨w.heap.size, 1, none⟩) (by simp)).trans (by simp))
 have HB5 := Lib.hid hb5'
 have hb6 : Below w5.heap.size w5 (w5.alloc (.cells #[.pointer none] 97)) := (Below.refl _ _).alloc (Nat.le_refl _) _
 have HE6 := Lib.hid ((HE.out.below hb5').below hb6)
 have HB6 := Lib.hid hb6
 clear hs5 r0 r1 hb5' hb6
 cases hq : numberL s.data.toList 0 with
 | inr i =>
  rw [hq] at hN
  obtain ⟨g, rfl, hF⟩ := hN
  have hPL : parseL s.data.toList = .inr i := by unfold parseL; rw [hq]
  have HPL := Lib.hid hPL
  have HGF := Lib.hid (Nat.ne_of_lt hF.2.1)
  have HGR := Lib.hid (show w.heap.size < g by have := hF.1; simp at this; omega)
  have HF := Lib.hid ((hF.mono (B' := w.heap.size) (by simp)).below HB6.out)
  clear hq hPL hF hb5
  have HA := Lib.hid (as_hit ⟨g, 0, none⟩ w5.heap.size (w5.alloc (.cells #[.pointer none] 97)) HE6.out (by simp) (by simp))
  go_wp2_with fail
  refine HA.out.mono ?_
  rintro e w7 ⟨⟨rfl, hc7⟩, hg7⟩
  have hb7 : Below w5.heap.size w5 w7 := Below.grown HB6.out hg7 (HB6.out).size (fun k e => by cases e; exact Nat.le_refl _)
  have HF7 := Lib.hid (HF.out.kept hg7 (HGF.out))
  have hne : ¬ w5.heap.size = w.heap.size := by have := HS5.out; omega
  have hne' : ¬ w.heap.size = w5.heap.size := by have := HS5.out; omega
  have r0' := ((hb7).cell (p := ⟨w.heap.size, 0, none⟩) (by have := HS5.out; show w.heap.size < _; omega)).trans HR0.out
  have r1' := ((hb7).cell (p := ⟨w.heap.size, 1, none⟩) (by have := HS5.out; show w.heap.size < _; omega)).trans HR1.out
  have fz' := ((hb7).frozen (p := ⟨w.heap.size, 0, none⟩) (by have := HS5.out; show w.heap.size < _; omega)).trans HZ0.out
  have fz1' := ((hb7).frozen (p := ⟨w.heap.size, 1, none⟩) (by have := HS5.out; show w.heap.size < _; omega)).trans HZ1.out
  obtain ⟨q0, q1⟩ := set2 r0' r1' (.int .i64 0) (.int .i64 0)
  have HB0 := Lib.hid (show Below w.heap.size w ((w7).setCell ⟨w.heap.size, 0, none⟩ (.int .i64 0)) from Below.setCell (HB5.out.trans ((hb7).mono (by have := HS5.out; omega))) (Nat.le_refl _) _)
  have HBF := Lib.hid (show Below w.heap.size w (((w7).setCell ⟨w.heap.size, 0, none⟩ (.int .i64 0)).setCell ⟨w.heap.size, 1, none⟩ (.int .i64 0)) from Below.setCell HB0.out (Nat.le_refl _) _)
  clear HB0
  go_wp2
  go_region
  go_wp2
  refine bodyPost_ret (by simp [results, Tryz.results75, go_sem, q0, q1] <;> rfl) rfl ?_
  rw [HPL.out]
  exact ⟨⟨g, rfl, (FaultAt.set (FaultAt.set HF7.out (by have := HGR.out; omega)) (by have := HGR.out; omega))⟩, HBF.out.drew⟩
 | inl p =>
  obtain ⟨n, i⟩ := p
  rw [hq] at hN
  obtain rfl := hN
  clear hb5
  have hPI : parseL s.data.toList = if i = s.size then .inl (n, 0) else if s.data.toList[i]? ≠ some 46 then .inr i else
   match numberL s.data.toList (i + 1) with
   | .inr j => .inr j
   | .inl (r, j) => if j < s.size then .inr j else .inl (n, r) := by
   unfold parseL; rw [hq, HSZ.out]; rfl
  have hi : i ≤ s.size := by have := (numberL_le hq (by omega)).2; rwa [HSZ.out] at this
  by_cases hin : i = s.size
  ·rw [if_pos hin] at hPI
   have HPL := Lib.hid hPI
   have hin' : ((i : Int) == s.size) = true := by simp [hin]
   clear hPI hq
   have r0' := ((HB6.out).cell (p := ⟨w.heap.size, 0, none⟩) (by have := HS5.out; show w.heap.size < _; omega)).trans HR0.out
   have r1' := ((HB6.out).cell (p := ⟨w.heap.size, 1, none⟩) (by have := HS5.out; show w.heap.size < _; omega)).trans HR1.out
   have fz' := ((HB6.out).frozen (p := ⟨w.heap.size, 0, none⟩) (by have := HS5.out; show w.heap.size < _; omega)).trans HZ0.out
   have fz1' := ((HB6.out).frozen (p := ⟨w.heap.size, 1, none⟩) (by have := HS5.out; show w.heap.size < _; omega)).trans HZ1.out
   obtain ⟨q0, q1⟩ := set2 r0' r1' (.int .i64 n) (.int .i64 0)
   have HB0 := Lib.hid (show Below w.heap.size w (((w5.alloc (.cells #[.pointer none] 97))).setCell ⟨w.heap.size, 0, none⟩ (.int .i64 n)) from Below.setCell (HB5.out.trans ((HB6.out).mono (by have := HS5.out; omega))) (Nat.le_refl _) _)
   have HBF := Lib.hid (show Below w.heap.size w ((((w5.alloc (.cells #[.pointer none] 97))).setCell ⟨w.heap.size, 0, none⟩ (.int .i64 n)).setCell ⟨w.heap.size, 1, none⟩ (.int .i64 0)) from Below.setCell HB0.out (Nat.le_refl _) _)
   clear HB0
   go_wp2_with (go_at_call 62; refine (as_nil _ _).mono ?_; rintro e w' ⟨rfl, rfl⟩)
   refine bodyPost_ret (by simp [results, Tryz.results75, go_sem, q0, q1] <;> rfl) rfl ?_
   rw [HPL.out]
   exact ⟨rfl, HBF.out⟩
  ·rw [if_neg hin] at hPI
   have hil : i < s.size := by omega
   have hil' : (i : Int) < s.size := by omega
   have hin' : ((i : Int) == s.size) = false := by simp; omega
   obtain ⟨c, hc⟩ : ∃ c, s[i] = c := ⟨_, rfl⟩
   have hget : s.data.toList[i]? = some c := by
    rw [List.getElem?_eq_getElem (by rw [HSZ.out]; exact hil), ← hc]; simp; rfl
   rw [hget] at hPI
   clear hget hq
   by_cases hc46 : c = 46
   ·subst hc46
    rw [if_neg (by simp)] at hPI
    have h8 := HN.out (i + 1) (w5.alloc (.cells #[.pointer none] 97)) (by omega)
    have H8 := Lib.hid h8
    rw [show ((i + 1 : Nat) : Int) = (i : Int) + 1 by omega] at H8
    clear h8
    go_wp2_with (go_at_call 62; refine (as_nil _ _).mono ?_; rintro e w' ⟨rfl, rfl⟩)
    refine H8.out.mono ?_
    rintro e w8 ⟨hN8, hb8⟩
    have hb8' : Below w5.heap.size w5 w8 := HB6.out.trans (hb8.mono HB6.out.size)
    have HB8 := Lib.hid hb8'
    have HE8 := Lib.hid (HE6.out.below hb8)
    have hF8 : w8.cell? ⟨w5.heap.size, 0, none⟩ = some (.pointer none) := (hb8.cell (p := ⟨w5.heap.size, 0, none⟩) (by simp)).trans (by simp)
    have hZ8 : w8.frozen? ⟨w5.heap.size, 0, none⟩ = false := (hb8.frozen (p := ⟨w5.heap.size, 0, none⟩) (by simp)).trans (by simp)
    clear hb8' H8
    cases hq2 : numberL s.data.toList (i + 1) with
    | inr j =>
     rw [hq2] at hN8 hPI
     obtain ⟨g, rfl, hF⟩ := hN8
     have HPL := Lib.hid hPI
     have hlo := hF.1
     simp at hlo
     have HGF := Lib.hid (show g ≠ w5.heap.size by omega)
     have HGR := Lib.hid (show w.heap.size < g by have := HS5.out; omega)
     have HF := Lib.hid (hF.mono (B' := w.heap.size) (by have := HS5.out; simp; omega))
     have HA := Lib.hid (as_hit ⟨g, 0, none⟩ w5.heap.size w8 HE8.out hF8 hZ8)
     clear hc hq2 hPI hF hb8 hlo hF8 hZ8 hin hil hil' hin' hi
     go_wp2_with fail
     refine HA.out.mono ?_
     rintro e w7 ⟨⟨rfl, hc7⟩, hg7⟩
     have hb7 : Below w5.heap.size w5 w7 := Below.grown HB8.out hg7 (HB8.out).size (fun k e => by cases e; exact Nat.le_refl _)
     have HF7 := Lib.hid (HF.out.kept hg7 (HGF.out))
     have hne : ¬ w5.heap.size = w.heap.size := by have := HS5.out; omega
     have hne' : ¬ w.heap.size = w5.heap.size := by have := HS5.out; omega
     have r0' := ((hb7).cell (p := ⟨w.heap.size, 0, none⟩) (by have := HS5.out; show w.heap.size < _; omega)).trans HR0.out
     have r1' := ((hb7).cell (p := ⟨w.heap.size, 1, none⟩) (by have := HS5.out; show w.heap.size < _; omega)).trans HR1.out
     have fz' := ((hb7).frozen (p := ⟨w.heap.size, 0, none⟩) (by have := HS5.out; show w.heap.size < _; omega)).trans HZ0.out
     have fz1' := ((hb7).frozen (p := ⟨w.heap.size, 1, none⟩) (by have := HS5.out; show w.heap.size < _; omega)).trans HZ1.out
     obtain ⟨q0, q1⟩ := set2 r0' r1' (.int .i64 0) (.int .i64 0)
     have HB0 := Lib.hid (show Below w.heap.size w ((w7).setCell ⟨w.heap.size, 0, none⟩ (.int .i64 0)) from Below.setCell (HB5.out.trans ((hb7).mono (by have := HS5.out; omega))) (Nat.le_refl _) _)
     have HBF := Lib.hid (show Below w.heap.size w (((w7).setCell ⟨w.heap.size, 0, none⟩ (.int .i64 0)).setCell ⟨w.heap.size, 1, none⟩ (.int .i64 0)) from Below.setCell HB0.out (Nat.le_refl _) _)
     clear HB0
     go_wp2
     go_region
     go_wp2
     refine bodyPost_ret (by simp [results, Tryz.results75, go_sem, q0, q1] <;> rfl) rfl ?_
     rw [HPL.out]
     exact ⟨⟨g, rfl, (FaultAt.set (FaultAt.set HF7.out (by have := HGR.out; omega)) (by have := HGR.out; omega))⟩, HBF.out.drew⟩
    | inl p2 =>
     obtain ⟨r, j⟩ := p2
     rw [hq2] at hN8 hPI
     obtain rfl := hN8
     simp only at hPI
     clear hb8 hF8 hZ8
     by_cases hjs : j < s.size
     ·have hjs' : (j : Int) < s.size := by omega
      rw [if_pos hjs] at hPI
      have HPL := Lib.hid hPI
      clear hc hPI hq2 hin hil hil' hin' hi
      go_wp2_with (go_at_call 62; refine (as_nil _ _).mono ?_; rintro e w' ⟨rfl, rfl⟩)
      go_wp2_with fail
      refine (errForm_any j _).mono ?_
      rintro e w9 ⟨⟨g, rfl, hF9⟩, hb9⟩
      have hb9' := (HB8.out).trans (hb9.mono (HB8.out).size)
      have HF9 := Lib.hid hF9
      clear hF9
      have r0' := ((hb9').cell (p := ⟨w.heap.size, 0, none⟩) (by have := HS5.out; show w.heap.size < _; omega)).trans HR0.out
      have r1' := ((hb9').cell (p := ⟨w.heap.size, 1, none⟩) (by have := HS5.out; show w.heap.size < _; omega)).trans HR1.out
      have fz' := ((hb9').frozen (p := ⟨w.heap.size, 0, none⟩) (by have := HS5.out; show w.heap.size < _; omega)).trans HZ0.out
      have fz1' := ((hb9').frozen (p := ⟨w.heap.size, 1, none⟩) (by have := HS5.out; show w.heap.size < _; omega)).trans HZ1.out
      obtain ⟨q0, q1⟩ := set2 r0' r1' (.int .i64 0) (.int .i64 0)
      have HB0 := Lib.hid (show Below w.heap.size w ((w9).setCell ⟨w.heap.size, 0, none⟩ (.int .i64 0)) from Below.setCell (HB5.out.trans ((hb9').mono (by have := HS5.out; omega))) (Nat.le_refl _) _)
      have HBF := Lib.hid (show Below w.heap.size w (((w9).setCell ⟨w.heap.size, 0, none⟩ (.int .i64 0)).setCell ⟨w.heap.size, 1, none⟩ (.int .i64 0)) from Below.setCell HB0.out (Nat.le_refl _) _)
      clear HB0
      go_wp2
      refine bodyPost_ret (by simp [results, Tryz.results75, go_sem, q0, q1] <;> rfl) rfl ?_
      rw [HPL.out]
      exact ⟨⟨g, rfl, (FaultAt.set (FaultAt.set (FaultAt.mono HF9.out (by have := (HB8.out).size; have := HS5.out; omega)) (by have := HF9.out.1; have := (HB8.out).size; have := HS5.out; omega)) (by have := HF9.out.1; have := (HB8.out).size; have := HS5.out; omega))⟩, HBF.out⟩
     ·have hjs' : ¬ (j : Int) < s.size := by omega
      rw [if_neg hjs] at hPI
      have HPL := Lib.hid hPI
      clear hc hPI hq2 hin hil hil' hin' hi
      have r0' := ((HB8.out).cell (p := ⟨w.heap.size, 0, none⟩) (by have := HS5.out; show w.heap.size < _; omega)).trans HR0.out
      have r1' := ((HB8.out).cell (p := ⟨w.heap.size, 1, none⟩) (by have := HS5.out; show w.heap.size < _; omega)).trans HR1.out
      have fz' := ((HB8.out).frozen (p := ⟨w.heap.size, 0, none⟩) (by have := HS5.out; show w.heap.size < _; omega)).trans HZ0.out
      have fz1' := ((HB8.out).frozen (p := ⟨w.heap.size, 1, none⟩) (by have := HS5.out; show w.heap.size < _; omega)).trans HZ1.out
      obtain ⟨q0, q1⟩ := set2 r0' r1' (.int .i64 n) (.int .i64 r)
      have HB0 := Lib.hid (show Below w.heap.size w ((w8).setCell ⟨w.heap.size, 0, none⟩ (.int .i64 n)) from Below.setCell (HB5.out.trans ((HB8.out).mono (by have := HS5.out; omega))) (Nat.le_refl _) _)
      have HBF := Lib.hid (show Below w.heap.size w (((w8).setCell ⟨w.heap.size, 0, none⟩ (.int .i64 n)).setCell ⟨w.heap.size, 1, none⟩ (.int .i64 r)) from Below.setCell HB0.out (Nat.le_refl _) _)
      clear HB0
      go_wp2_with (go_at_call 62; refine (as_nil _ _).mono ?_; rintro e w' ⟨rfl, rfl⟩)
      refine bodyPost_ret (by simp [results, Tryz.results75, go_sem, q0, q1] <;> rfl) rfl ?_
      rw [HPL.out]
      exact ⟨rfl, HBF.out⟩
   ·rw [if_pos (by simp [hc46])] at hPI
    have HPL := Lib.hid hPI
    have hcc : ((c.toNat : Int) != 46) = true := by
     have : c.toNat ≠ 46 := fun h => hc46 (by have := UInt8.ofNat_toNat (x := c); rw [h] at this; exact this.symm)
     simp; omega
    clear hPI
    go_wp2_with (go_at_call 62; refine (as_nil _ _).mono ?_; rintro e w' ⟨rfl, rfl⟩)
    go_wp2_with fail
    refine (errForm_any i _).mono ?_
    rintro e w9 ⟨⟨g, rfl, hF9⟩, hb9⟩
    have hb9' := (HB6.out).trans (hb9.mono (HB6.out).size)
    have HF9 := Lib.hid hF9
    clear hF9
    have r0' := ((hb9').cell (p := ⟨w.heap.size, 0, none⟩) (by have := HS5.out; show w.heap.size < _; omega)).trans HR0.out
    have r1' := ((hb9').cell (p := ⟨w.heap.size, 1, none⟩) (by have := HS5.out; show w.heap.size < _; omega)).trans HR1.out
    have fz' := ((hb9').frozen (p := ⟨w.heap.size, 0, none⟩) (by have := HS5.out; show w.heap.size < _; omega)).trans HZ0.out
    have fz1' := ((hb9').frozen (p := ⟨w.heap.size, 1, none⟩) (by have := HS5.out; show w.heap.size < _; omega)).trans HZ1.out
    obtain ⟨q0, q1⟩ := set2 r0' r1' (.int .i64 0) (.int .i64 0)
    have HB0 := Lib.hid (show Below w.heap.size w ((w9).setCell ⟨w.heap.size, 0, none⟩ (.int .i64 0)) from Below.setCell (HB5.out.trans ((hb9').mono (by have := HS5.out; omega))) (Nat.le_refl _) _)
    have HBF := Lib.hid (show Below w.heap.size w (((w9).setCell ⟨w.heap.size, 0, none⟩ (.int .i64 0)).setCell ⟨w.heap.size, 1, none⟩ (.int .i64 0)) from Below.setCell HB0.out (Nat.le_refl _) _)
    clear HB0
    go_wp2
    refine bodyPost_ret (by simp [results, Tryz.results75, go_sem, q0, q1] <;> rfl) rfl ?_
    rw [HPL.out]
    exact ⟨⟨g, rfl, (FaultAt.set (FaultAt.set (FaultAt.mono HF9.out (by have := (HB6.out).size; have := HS5.out; omega)) (by have := HF9.out.1; have := (HB6.out).size; have := HS5.out; omega)) (by have := HF9.out.1; have := (HB6.out).size; have := HS5.out; omega))⟩, HBF.out⟩
end Go.Proofs.YtjpjlfjaapfnkaaGreatDoor
namespace Go.Proofs.YtjpjlfjaapfnkaaGreatDoor
open Go.ChangeShapes Go.WideShapes Go.ChangeAt Go.RowKit
theorem dig_pos (n : Nat) : 0 < (digL n).length := by
 unfold digL
 split
 ·simp
 ·split <;> simp
theorem text_head (t r : Nat) : (textL t r)[0]? = (digL t)[0]? := by
 unfold textL
 split
 ·rfl
 ·rw [List.getElem?_append_left (dig_pos t)]
def RefIs (e : Ending) : (Nat × Nat) ⊕ Nat → Prop
 | .inl (t, r) => e = .returned (.tuple #[.agg #[.int .i64 t, .int .i64 r], .int .i64 0, .int .i64 0])
 | .inr i => e = .returned (.tuple #[.agg #[.int .i64 0, .int .i64 0], .int .i64 i, .int .i64 5])
theorem below_drewN {B : Nat} {a w : World} (h : Below B a w) (n : Nat) : Below B a (w.drewN n) := ⟨h.os, h.tape, h.output, h.size, h.block⟩
set_option maxRecDepth 100000 in
set_option maxHeartbeats 2000000 in
theorem rparse_any (s : ByteArray) (w : World) (hs : s.size ≤ 1000000) :
 Calls Tryz.prog 46 #[.string s] w fun e w' => RefIs e (readL s.data.toList) ∧ Below w.heap.size w w' := by
 have hsz : s.data.toList.length = s.size := by simp
 have HSZ := Lib.hid hsz
 have HBA := Lib.hid (show Below w.heap.size w (w.alloc (.cells #[.int .i64 0, .int .i64 0] 23)) from (Below.refl _ _).alloc (Nat.le_refl _) _)
 have HR0 := Lib.hid (show (w.alloc (.cells #[.int .i64 0, .int .i64 0] 23)).cell? ⟨w.heap.size, 0, none⟩ = some (.int .i64 0) by simp)
 have HR1 := Lib.hid (show (w.alloc (.cells #[.int .i64 0, .int .i64 0] 23)).cell? ⟨w.heap.size, 1, none⟩ = some (.int .i64 0) by simp)
 have HZ0 := Lib.hid (show (w.alloc (.cells #[.int .i64 0, .int .i64 0] 23)).frozen? ⟨w.heap.size, 0, none⟩ = false by simp)
 have HZ1 := Lib.hid (show (w.alloc (.cells #[.int .i64 0, .int .i64 0] 23)).frozen? ⟨w.heap.size, 1, none⟩ = false by simp)
 clear hsz
 go_enter Tryz.func46, Tryz.ntmps46
 go_wp2
 generalize hW1 : w.alloc (.cells #[.int .i64 0, .int .i64 0] 23) = w1 at *
 have hs1 : w1.heap.size = w.heap.size + 1 := by rw [← hW1]; simp
 have HS1 := Lib.hid hs1
 clear hs1 hW1
 go_loopw [5] (fun i wr => Below w1.heap.size w1 wr ∧ ∃ k : Nat, k ≤ s.size ∧ i = .int .i64 k ∧ (run (.tab 0) (s.data.toList.take k)).isSome = true) (fun i _ => s.size - (intOf i).toNat)
 case atStart => exact ⟨Below.refl _ _, 0, by omega, rfl, rfl⟩
 case round =>
  obtain ⟨hbr, k, hk, rfl, hrun⟩ := hrel
  have HRUN := Lib.hid hrun
  clear hrun
  by_cases hlt : k < s.size
  ·have hlt' : (k : Int) < s.size := by omega
   by_cases h7 : 7 < k
   ·have h7' : (7 : Int) < k := by omega
    have HN := Lib.hid (readL_fault HRUN.out (by
     cases h : (run (.tab 0) (s.data.toList.take (k + 1))).isSome with
     | false => rfl
     | true =>
      have := run_len h
      rw [List.length_take, HSZ.out] at this
      omega))
    have r0' := ((hbr).cell (p := ⟨w.heap.size, 0, none⟩) (by have := HS1.out; show w.heap.size < _; omega)).trans HR0.out
    have r1' := ((hbr).cell (p := ⟨w.heap.size, 1, none⟩) (by have := HS1.out; show w.heap.size < _; omega)).trans HR1.out
    have fz' := ((hbr).frozen (p := ⟨w.heap.size, 0, none⟩) (by have := HS1.out; show w.heap.size < _; omega)).trans HZ0.out
    have fz1' := ((hbr).frozen (p := ⟨w.heap.size, 1, none⟩) (by have := HS1.out; show w.heap.size < _; omega)).trans HZ1.out
    obtain ⟨q0, q1⟩ := set2 r0' r1' (.int .i64 0) (.int .i64 0)
    have HBF := Lib.hid (show Below w.heap.size w (((wr).setCell ⟨w.heap.size, 0, none⟩ (.int .i64 0)).setCell ⟨w.heap.size, 1, none⟩ (.int .i64 0)) from Below.setCell (Below.setCell (HBA.out.trans ((hbr).mono (by have := HS1.out; omega))) (Nat.le_refl _) _) (Nat.le_refl _) _)
    go_wp2
    refine bodyPost_ret (by simp [results, Tryz.results46, go_sem, q0, q1] <;> rfl) rfl ?_
    rw [HN.out]
    exact ⟨rfl, HBF.out⟩
   ·have h7' : ¬ (7 : Int) < k := by omega
    have hex : (s.extract 0 (k + 1)).data.toList = s.data.toList.take (k + 1) := by rw [← ByteArray.toList_eq]; exact ext_take _ _
    have hes : (s.extract 0 (k + 1)).size ≤ 1000000 := by
     have : (s.extract 0 (k + 1)).size = (s.extract 0 (k + 1)).data.toList.length := by simp
     rw [this, hex, List.length_take]; have := HSZ.out; omega
    have HG := Lib.hid (goes_any (s.extract 0 (k + 1)) wr hes)
    have hne : s.data.toList.take (k + 1) ≠ [] := by
     intro h
     have := congrArg List.length h
     rw [List.length_take, HSZ.out, List.length_nil] at this
     omega
    have HIFF := Lib.hid (goes_iff hne)
    rw [hex] at HG
    clear hex hes hne
    generalize goesL (s.data.toList.take (k + 1)) = b at *
    go_wp2_with fail
    refine HG.out.mono ?_
    rintro e w5 ⟨rfl, hb5⟩
    have hb5' := hbr.trans (hb5.mono hbr.size)
    cases b
    ·have HN := Lib.hid (readL_fault HRUN.out (by
      cases h : (run (.tab 0) (s.data.toList.take (k + 1))).isSome with
      | false => rfl
      | true => exact absurd (HIFF.out.2 h) (by decide)))
     have r0' := ((hb5').cell (p := ⟨w.heap.size, 0, none⟩) (by have := HS1.out; show w.heap.size < _; omega)).trans HR0.out
     have r1' := ((hb5').cell (p := ⟨w.heap.size, 1, none⟩) (by have := HS1.out; show w.heap.size < _; omega)).trans HR1.out
     have fz' := ((hb5').frozen (p := ⟨w.heap.size, 0, none⟩) (by have := HS1.out; show w.heap.size < _; omega)).trans HZ0.out
     have fz1' := ((hb5').frozen (p := ⟨w.heap.size, 1, none⟩) (by have := HS1.out; show w.heap.size < _; omega)).trans HZ1.out
     obtain ⟨q0, q1⟩ := set2 r0' r1' (.int .i64 0) (.int .i64 0)
     have HBF := Lib.hid (show Below w.heap.size w (((w5).setCell ⟨w.heap.size, 0, none⟩ (.int .i64 0)).setCell ⟨w.heap.size, 1, none⟩ (.int .i64 0)) from Below.setCell (Below.setCell (HBA.out.trans ((hb5').mono (by have := HS1.out; omega))) (Nat.le_refl _) _) (Nat.le_refl _) _)
     go_wp2
     refine bodyPost_ret (by simp [results, Tryz.results46, go_sem, q0, q1] <;> rfl) rfl ?_
     rw [HN.out]
     exact ⟨rfl, HBF.out⟩
    ·have HR := Lib.hid (HIFF.out.1 rfl)
     go_wp2
     exact ⟨⟨hb5', k + 1, by omega, by simp, HR.out⟩, by simp [intOf]; omega⟩
  ·have hk' : k = s.size := by omega
   have hge : ¬ (k : Int) < s.size := by omega
   have hrun := HRUN.out
   rw [hk', List.take_of_length_le (by rw [HSZ.out]; exact Nat.le_refl _)] at hrun
   have HFULL := Lib.hid hrun
   clear hrun HRUN hlt hk'
   go_wp2
   clear hge
   go_loopw [6] (fun i wy => Below w1.heap.size w1 wy ∧ ∃ m : Nat, m ≤ 250 ∧ i = .int .i64 (m + 1) ∧ ∀ t r, t < m → r ≤ 250 → textL (t + 1) r ≠ s.data.toList) (fun i _ => 252 - (intOf i).toNat)
   case atStart => exact ⟨hbr, 0, by omega, rfl, fun t r h => by omega⟩
   case round =>
    obtain ⟨hby, m, hm, rfl, hno⟩ := hrel
    have HNO := Lib.hid hno
    clear hno
    by_cases hm2 : m < 250
    ·have hm1 : ((m : Int) + 1) = ((m + 1 : Nat) : Int) := by omega
     have hm3 : ((m + 1 : Nat) : Int) < 251 := by omega
     rw [hm1]
     have hmK : m + 1 ≤ 250 := by omega
     clear hm1
     generalize hK : m + 1 = K at *
     have HK := Lib.hid hK
     clear hK
     have HDG := Lib.hid (fun W => digits_any K W (by omega))
     have HTX := Lib.hid (fun j (hj : j < 251) W => text_any K j W (by omega) (by omega))
     have hap : 0 < (digs K).size := by
      have := dig_pos K
      have e : (digs K).size = (digL K).length := by show (digL K).toArray.size = _; simp
      omega
     obtain ⟨c0, hc0⟩ : ∃ c, (digs K)[0] = c := ⟨_, rfl⟩
     have HC0 := Lib.hid (show (digL K)[0]? = some c0 by
      rw [← hc0, List.getElem?_eq_getElem (dig_pos K)]; simp [digs]; rfl)
     generalize digs K = a at *
     go_wp2
     go_loopw [7] (fun i wz => Below w1.heap.size w1 wz ∧ ∃ j : Nat, j ≤ 251 ∧ i = .int .i64 j ∧ ∀ r, r < j → textL K r ≠ s.data.toList) (fun i _ => 252 - (intOf i).toNat)
     case atStart => exact ⟨hby, 0, by omega, rfl, fun r h => by omega⟩
     case round =>
      obtain ⟨hbz, j, hj, rfl, hnr⟩ := hrel
      have HNR := Lib.hid hnr
      have hszz := hbz.size
      clear hnr
      by_cases hj2 : j < 251
      ·have hj3 : (j : Int) < 251 := by omega
       have HEND := Lib.hid (fun (h : textL K j ≠ s.data.toList) => (show ∀ r, r < j + 1 → textL K r ≠ s.data.toList from fun r hr => by
        rcases Nat.lt_or_ge r j with h' | h'
        ·exact HNR.out r h'
        ·rw [show r = j by omega]; exact h))
       by_cases hs0 : s.size = 0
       ·have hs0' : ¬ (0 : Int) < s.size := by omega
        have hs0n : ¬ 0 < s.size := by omega
        have HT := Lib.hid (HEND.out (fun h => by
         have := congrArg List.length h
         rw [HSZ.out, hs0] at this
         have h2 := dig_pos K
         unfold textL at this
         split at this
         ·omega
         ·simp at this))
        clear hs0
        go_wp2
        go_quiet (fail)
        go_wp2
        exact ⟨⟨below_drewN hbz _, j + 1, by omega, by simp, HT.out⟩, by simp [intOf]; omega⟩
       ·have hs0' : (0 : Int) < s.size := by omega
        have hs1 : 0 < s.size := by omega
        obtain ⟨c1, hc1⟩ : ∃ c, s[0] = c := ⟨_, rfl⟩
        have HC1 := Lib.hid (show s.data.toList[0]? = some c1 by
         rw [List.getElem?_eq_getElem (by rw [HSZ.out]; exact hs1), ← hc1]; simp; rfl)
        by_cases hcc : c0 = c1
        ·subst hcc
         have htb : (textB K j).toList = textL K j := by rw [ByteArray.toList_eq]; rfl
         have HTXJ := Lib.hid (HTX.out j hj2)
         have HTB := Lib.hid htb
         clear htb hs0
         generalize textB K j = tx at *
         rcases hqt : (tx.toList == s.toList) with _ | _
         ·have HT := Lib.hid (HEND.out (fun h => by
           rw [← HTB.out, ← ByteArray.toList_eq] at h
           exact beq_no hqt h))
          go_wp2
          refine wp_region_N (S := (fun _ => True)) (fun i => true) (by kernel_rfl) ?_ (fun hHeld => ?_)
          ·(try dsimp only)
           try trivial
          refine tk (i := 0) (v := ?_) rfl (by kernel_rfl) (fun _ _ _ h => h) (Or.inl ⟨by first | kernel_rfl | rfl, ?_⟩) (by assumption) ?_
          rotate_left
          focus intro w hSw; (try dsimp only at hSw); go_simp; try with_reducible rfl
          try (unfold Act.put; dsimp only)
          refine tk (i := 1) (v := ?_) rfl (by kernel_rfl) (fun _ _ _ h => h) (Or.inl ⟨by first | kernel_rfl | rfl, ?_⟩) (by assumption) ?_
          rotate_left
          focus intro w hSw; (try dsimp only at hSw); go_simp; try with_reducible rfl
          try (unfold Act.put; dsimp only)
          refine tk (i := 2) (v := ?_) rfl (by kernel_rfl) (fun _ _ _ h => h) (Or.inl ⟨by first | kernel_rfl | rfl, ?_⟩) (by assumption) ?_
          rotate_left
          focus intro w hSw; (try dsimp only at hSw); go_simp; try with_reducible rfl
          try (unfold Act.put; dsimp only)
          refine tk (i := 3) (v := ?_) rfl (by kernel_rfl) (fun _ _ _ h => h) (Or.inl ⟨by first | kernel_rfl | rfl, ?_⟩) (by assumption) ?_
          rotate_left
          focus intro w hSw; (try dsimp only at hSw); go_simp; try with_reducible rfl
          try (unfold Act.put; dsimp only)
          refine tk (i := 4) (v := ?_) rfl (by kernel_rfl) (fun _ _ _ h => h) (Or.inl ⟨by first | kernel_rfl | rfl, ?_⟩) (by assumption) ?_
          rotate_left
          focus intro w hSw; (try dsimp only at hSw); go_simp; try with_reducible rfl
          try (unfold Act.put; dsimp only)
          refine tk (i := 7) (v := ?_) rfl (by kernel_rfl) (fun _ _ _ h => h) (Or.inl ⟨by first | kernel_rfl | rfl, ?_⟩) (by assumption) ?_
          rotate_left
          focus intro w hSw; (try dsimp only at hSw); go_simp; try with_reducible rfl
          try (unfold Act.put; dsimp only)
          refine tk (i := 8) (v := ?_) rfl (by kernel_rfl) (fun _ _ _ h => h) (Or.inl ⟨by first | kernel_rfl | rfl, ?_⟩) (by assumption) ?_
          rotate_left
          focus intro w hSw; (try dsimp only at hSw); go_simp; try with_reducible rfl
          try (unfold Act.put; dsimp only)
          refine wpAnyN_ready (rs := [5]) (by kernel_rfl) (by simp) ?_
          refine AllReadyN.cons rfl (fun K hK => ?_) ?_
          ·go_simp
           go_at_call 72
           refine (HDG.out _).mono ?_
           rintro e w5 ⟨rfl, hb5⟩
           have hbw : Below w1.heap.size w1 w5 := Below.trans (show Below w1.heap.size w1 _ by first | exact hbz.drew | exact hbz) (hb5.mono (by first | exact hszz | (simp; omega)))
           have hsw := hbw.size
           dsimp only
           refine hK.out _ _ ?_ (fun hHeld => ?_)
           ·(try dsimp only)
            try trivial
           clear hK K
           (try change wpAnyN _ _ _ _ _ _ _ _ (Act.put _ (some 39) _) _)
           try (unfold Act.put; dsimp only)
           refine tk (i := 6) (v := ?_) rfl (by kernel_rfl) (fun _ _ _ h => h) (Or.inl ⟨by first | kernel_rfl | rfl, ?_⟩) (by assumption) ?_
           rotate_left
           focus intro w hSw; (try dsimp only at hSw); go_simp; try with_reducible rfl
           try (unfold Act.put; dsimp only)
           refine tk (i := 9) (v := ?_) rfl (by kernel_rfl) (fun _ _ _ h => h) (Or.inl ⟨by first | kernel_rfl | rfl, ?_⟩) (by assumption) ?_
           rotate_left
           focus intro w hSw; (try dsimp only at hSw); go_simp; try with_reducible rfl
           try (unfold Act.put; dsimp only)
           refine tk (i := 10) (v := ?_) rfl (by kernel_rfl) (fun _ _ _ h => h) (Or.inl ⟨by first | kernel_rfl | rfl, ?_⟩) (by assumption) ?_
           rotate_left
           focus intro w hSw; (try dsimp only at hSw); go_simp; try with_reducible rfl
           try (unfold Act.put; dsimp only)
           refine tk (i := 11) (v := ?_) rfl (by kernel_rfl) (fun _ _ _ h => h) (Or.inl ⟨by first | kernel_rfl | rfl, ?_⟩) (by assumption) ?_
           rotate_left
           focus intro w hSw; (try dsimp only at hSw); go_simp; try with_reducible rfl
           try (unfold Act.put; dsimp only)
           refine tk (i := 12) (v := ?_) rfl (by kernel_rfl) (fun _ _ _ h => h) (Or.inl ⟨by first | kernel_rfl | rfl, ?_⟩) (by assumption) ?_
           rotate_left
           focus intro w hSw; (try dsimp only at hSw); go_simp; try with_reducible rfl
           try (unfold Act.put; dsimp only)
           refine tk (i := 13) (v := ?_) rfl (by kernel_rfl) (fun _ _ _ h => h) (Or.inl ⟨by first | kernel_rfl | rfl, ?_⟩) (by assumption) ?_
           rotate_left
           focus intro w hSw; (try dsimp only at hSw); go_simp; try with_reducible rfl
           try (unfold Act.put; dsimp only)
           refine tk (i := 14) (v := ?_) rfl (by kernel_rfl) (fun _ _ _ h => h) (Or.inl ⟨by first | kernel_rfl | rfl, ?_⟩) (by assumption) ?_
           rotate_left
           focus intro w hSw; (try dsimp only at hSw); go_simp; try with_reducible rfl
           try (unfold Act.put; dsimp only)
           refine tk (i := 16) (v := ?_) rfl (by kernel_rfl) (fun _ _ _ h => h) (Or.inl ⟨by first | kernel_rfl | rfl, ?_⟩) (by assumption) ?_
           rotate_left
           focus intro w hSw; (try dsimp only at hSw); go_simp; try with_reducible rfl
           try (unfold Act.put; dsimp only)
           refine wpAnyN_ready (rs := [15]) (by kernel_rfl) (by simp) ?_
           refine AllReadyN.cons rfl (fun K hK => ?_) ?_
           ·go_simp
            go_at_call 36
            refine (HTXJ.out _).mono ?_
            rintro e w6 ⟨rfl, hb6⟩
            have hbv : Below w1.heap.size w1 w6 := hbw.trans (hb6.mono hsw)
            dsimp only
            refine hK.out _ _ ?_ (fun hHeld => ?_)
            ·(try dsimp only)
             try trivial
            clear hK K
            (try change wpAnyN _ _ _ _ _ _ _ _ (Act.put _ (some 49) _) _)
            try (unfold Act.put; dsimp only)
            refine tk (i := 17) (v := ?_) rfl (by kernel_rfl) (fun _ _ _ h => h) (Or.inl ⟨by first | kernel_rfl | rfl, ?_⟩) (by assumption) ?_
            rotate_left
            focus intro w hSw; (try dsimp only at hSw); go_simp; try with_reducible rfl
            try (unfold Act.put; dsimp only)
            refine tk (i := 18) (v := ?_) rfl (by kernel_rfl) (fun _ _ _ h => h) (Or.inl ⟨by first | kernel_rfl | rfl, ?_⟩) (by assumption) ?_
            rotate_left
            focus intro w hSw; (try dsimp only at hSw); go_simp; try with_reducible rfl
            try (unfold Act.put; dsimp only)
            refine wpAnyN_done (by kernel_rfl) ?_ _
            (simp only [List.setIfInBounds_toArray, List.set_cons_succ, List.set_cons_zero])
            go_wp2
            exact ⟨⟨hbv, j + 1, by omega, by simp, HT.out⟩, by simp [intOf]; omega⟩
           exact AllReadyN.nil
          exact AllReadyN.nil
         ·have HN := Lib.hid (readL_text (L := s.data.toList) (t := K) (r := j) ⟨by have := HK.out; omega, hmK⟩ (by omega) (by rw [← HTB.out, ← ByteArray.toList_eq]; exact beq_iff.1 hqt))
          go_wp2
          refine wp_region_N (S := (fun _ => True)) (fun i => true) (by kernel_rfl) ?_ (fun hHeld => ?_)
          ·(try dsimp only)
           try trivial
          refine tk (i := 0) (v := ?_) rfl (by kernel_rfl) (fun _ _ _ h => h) (Or.inl ⟨by first | kernel_rfl | rfl, ?_⟩) (by assumption) ?_
          rotate_left
          focus intro w hSw; (try dsimp only at hSw); go_simp; try with_reducible rfl
          try (unfold Act.put; dsimp only)
          refine tk (i := 1) (v := ?_) rfl (by kernel_rfl) (fun _ _ _ h => h) (Or.inl ⟨by first | kernel_rfl | rfl, ?_⟩) (by assumption) ?_
          rotate_left
          focus intro w hSw; (try dsimp only at hSw); go_simp; try with_reducible rfl
          try (unfold Act.put; dsimp only)
          refine tk (i := 2) (v := ?_) rfl (by kernel_rfl) (fun _ _ _ h => h) (Or.inl ⟨by first | kernel_rfl | rfl, ?_⟩) (by assumption) ?_
          rotate_left
          focus intro w hSw; (try dsimp only at hSw); go_simp; try with_reducible rfl
          try (unfold Act.put; dsimp only)
          refine tk (i := 3) (v := ?_) rfl (by kernel_rfl) (fun _ _ _ h => h) (Or.inl ⟨by first | kernel_rfl | rfl, ?_⟩) (by assumption) ?_
          rotate_left
          focus intro w hSw; (try dsimp only at hSw); go_simp; try with_reducible rfl
          try (unfold Act.put; dsimp only)
          refine tk (i := 4) (v := ?_) rfl (by kernel_rfl) (fun _ _ _ h => h) (Or.inl ⟨by first | kernel_rfl | rfl, ?_⟩) (by assumption) ?_
          rotate_left
          focus intro w hSw; (try dsimp only at hSw); go_simp; try with_reducible rfl
          try (unfold Act.put; dsimp only)
          refine tk (i := 7) (v := ?_) rfl (by kernel_rfl) (fun _ _ _ h => h) (Or.inl ⟨by first | kernel_rfl | rfl, ?_⟩) (by assumption) ?_
          rotate_left
          focus intro w hSw; (try dsimp only at hSw); go_simp; try with_reducible rfl
          try (unfold Act.put; dsimp only)
          refine tk (i := 8) (v := ?_) rfl (by kernel_rfl) (fun _ _ _ h => h) (Or.inl ⟨by first | kernel_rfl | rfl, ?_⟩) (by assumption) ?_
          rotate_left
          focus intro w hSw; (try dsimp only at hSw); go_simp; try with_reducible rfl
          try (unfold Act.put; dsimp only)
          refine wpAnyN_ready (rs := [5]) (by kernel_rfl) (by simp) ?_
          refine AllReadyN.cons rfl (fun K hK => ?_) ?_
          ·go_simp
           go_at_call 72
           refine (HDG.out _).mono ?_
           rintro e w5 ⟨rfl, hb5⟩
           have hbw : Below w1.heap.size w1 w5 := Below.trans (show Below w1.heap.size w1 _ by first | exact hbz.drew | exact hbz) (hb5.mono (by first | exact hszz | (simp; omega)))
           have hsw := hbw.size
           dsimp only
           refine hK.out _ _ ?_ (fun hHeld => ?_)
           ·(try dsimp only)
            try trivial
           clear hK K
           (try change wpAnyN _ _ _ _ _ _ _ _ (Act.put _ (some 39) _) _)
           try (unfold Act.put; dsimp only)
           refine tk (i := 6) (v := ?_) rfl (by kernel_rfl) (fun _ _ _ h => h) (Or.inl ⟨by first | kernel_rfl | rfl, ?_⟩) (by assumption) ?_
           rotate_left
           focus intro w hSw; (try dsimp only at hSw); go_simp; try with_reducible rfl
           try (unfold Act.put; dsimp only)
           refine tk (i := 9) (v := ?_) rfl (by kernel_rfl) (fun _ _ _ h => h) (Or.inl ⟨by first | kernel_rfl | rfl, ?_⟩) (by assumption) ?_
           rotate_left
           focus intro w hSw; (try dsimp only at hSw); go_simp; try with_reducible rfl
           try (unfold Act.put; dsimp only)
           refine tk (i := 10) (v := ?_) rfl (by kernel_rfl) (fun _ _ _ h => h) (Or.inl ⟨by first | kernel_rfl | rfl, ?_⟩) (by assumption) ?_
           rotate_left
           focus intro w hSw; (try dsimp only at hSw); go_simp; try with_reducible rfl
           try (unfold Act.put; dsimp only)
           refine tk (i := 11) (v := ?_) rfl (by kernel_rfl) (fun _ _ _ h => h) (Or.inl ⟨by first | kernel_rfl | rfl, ?_⟩) (by assumption) ?_
           rotate_left
           focus intro w hSw; (try dsimp only at hSw); go_simp; try with_reducible rfl
           try (unfold Act.put; dsimp only)
           refine tk (i := 12) (v := ?_) rfl (by kernel_rfl) (fun _ _ _ h => h) (Or.inl ⟨by first | kernel_rfl | rfl, ?_⟩) (by assumption) ?_
           rotate_left
           focus intro w hSw; (try dsimp only at hSw); go_simp; try with_reducible rfl
           try (unfold Act.put; dsimp only)
           refine tk (i := 13) (v := ?_) rfl (by kernel_rfl) (fun _ _ _ h => h) (Or.inl ⟨by first | kernel_rfl | rfl, ?_⟩) (by assumption) ?_
           rotate_left
           focus intro w hSw; (try dsimp only at hSw); go_simp; try with_reducible rfl
           try (unfold Act.put; dsimp only)
           refine tk (i := 14) (v := ?_) rfl (by kernel_rfl) (fun _ _ _ h => h) (Or.inl ⟨by first | kernel_rfl | rfl, ?_⟩) (by assumption) ?_
           rotate_left
           focus intro w hSw; (try dsimp only at hSw); go_simp; try with_reducible rfl
           try (unfold Act.put; dsimp only)
           refine tk (i := 16) (v := ?_) rfl (by kernel_rfl) (fun _ _ _ h => h) (Or.inl ⟨by first | kernel_rfl | rfl, ?_⟩) (by assumption) ?_
           rotate_left
           focus intro w hSw; (try dsimp only at hSw); go_simp; try with_reducible rfl
           try (unfold Act.put; dsimp only)
           refine wpAnyN_ready (rs := [15]) (by kernel_rfl) (by simp) ?_
           refine AllReadyN.cons rfl (fun K hK => ?_) ?_
           ·go_simp
            go_at_call 36
            refine (HTXJ.out _).mono ?_
            rintro e w6 ⟨rfl, hb6⟩
            have hbv : Below w1.heap.size w1 w6 := hbw.trans (hb6.mono hsw)
            dsimp only
            refine hK.out _ _ ?_ (fun hHeld => ?_)
            ·(try dsimp only)
             try trivial
            clear hK K
            (try change wpAnyN _ _ _ _ _ _ _ _ (Act.put _ (some 49) _) _)
            try (unfold Act.put; dsimp only)
            refine tk (i := 17) (v := ?_) rfl (by kernel_rfl) (fun _ _ _ h => h) (Or.inl ⟨by first | kernel_rfl | rfl, ?_⟩) (by assumption) ?_
            rotate_left
            focus intro w hSw; (try dsimp only at hSw); go_simp; try with_reducible rfl
            try (unfold Act.put; dsimp only)
            refine tk (i := 18) (v := ?_) rfl (by kernel_rfl) (fun _ _ _ h => h) (Or.inl ⟨by first | kernel_rfl | rfl, ?_⟩) (by assumption) ?_
            rotate_left
            focus intro w hSw; (try dsimp only at hSw); go_simp; try with_reducible rfl
            try (unfold Act.put; dsimp only)
            refine wpAnyN_done (by kernel_rfl) ?_ _
            (simp only [List.setIfInBounds_toArray, List.set_cons_succ, List.set_cons_zero])
            have r0' := ((hbv).cell (p := ⟨w.heap.size, 0, none⟩) (by have := HS1.out; show w.heap.size < _; omega)).trans HR0.out
            have r1' := ((hbv).cell (p := ⟨w.heap.size, 1, none⟩) (by have := HS1.out; show w.heap.size < _; omega)).trans HR1.out
            have fz' := ((hbv).frozen (p := ⟨w.heap.size, 0, none⟩) (by have := HS1.out; show w.heap.size < _; omega)).trans HZ0.out
            have fz1' := ((hbv).frozen (p := ⟨w.heap.size, 1, none⟩) (by have := HS1.out; show w.heap.size < _; omega)).trans HZ1.out
            obtain ⟨q0, q1⟩ := set2 r0' r1' (.int .i64 K) (.int .i64 j)
            have HBF := Lib.hid (show Below w.heap.size w (((w6).setCell ⟨w.heap.size, 0, none⟩ (.int .i64 K)).setCell ⟨w.heap.size, 1, none⟩ (.int .i64 j)) from Below.setCell (Below.setCell (HBA.out.trans ((hbv).mono (by have := HS1.out; omega))) (Nat.le_refl _) _) (Nat.le_refl _) _)
            go_wp2
            refine bodyPost_ret (by simp [results, Tryz.results46, go_sem, q0, q1] <;> rfl) rfl ?_
            rw [HN.out]
            exact ⟨rfl, HBF.out⟩
           exact AllReadyN.nil
          exact AllReadyN.nil
        ·have hcc' : ((c0.toNat : Int) == c1.toNat) = false := by
          have : c0.toNat ≠ c1.toNat := fun h => hcc (UInt8.toNat_inj.1 h)
          simp; omega
         have HT := Lib.hid (HEND.out (fun h => by
          have := text_head K j
          rw [h, HC0.out, HC1.out] at this
          exact hcc (by simpa using this.symm)))
         clear hs0
         go_wp2
         refine wp_region_N (S := (fun _ => True)) (fun i => true) (by kernel_rfl) ?_ (fun hHeld => ?_)
         ·(try dsimp only)
          try trivial
         refine tk (i := 0) (v := ?_) rfl (by kernel_rfl) (fun _ _ _ h => h) (Or.inl ⟨by first | kernel_rfl | rfl, ?_⟩) (by assumption) ?_
         rotate_left
         focus intro w hSw; (try dsimp only at hSw); go_simp; try with_reducible rfl
         try (unfold Act.put; dsimp only)
         refine tk (i := 1) (v := ?_) rfl (by kernel_rfl) (fun _ _ _ h => h) (Or.inl ⟨by first | kernel_rfl | rfl, ?_⟩) (by assumption) ?_
         rotate_left
         focus intro w hSw; (try dsimp only at hSw); go_simp; try with_reducible rfl
         try (unfold Act.put; dsimp only)
         refine tk (i := 2) (v := ?_) rfl (by kernel_rfl) (fun _ _ _ h => h) (Or.inl ⟨by first | kernel_rfl | rfl, ?_⟩) (by assumption) ?_
         rotate_left
         focus intro w hSw; (try dsimp only at hSw); go_simp; try with_reducible rfl
         try (unfold Act.put; dsimp only)
         refine tk (i := 3) (v := ?_) rfl (by kernel_rfl) (fun _ _ _ h => h) (Or.inl ⟨by first | kernel_rfl | rfl, ?_⟩) (by assumption) ?_
         rotate_left
         focus intro w hSw; (try dsimp only at hSw); go_simp; try with_reducible rfl
         try (unfold Act.put; dsimp only)
         refine tk (i := 4) (v := ?_) rfl (by kernel_rfl) (fun _ _ _ h => h) (Or.inl ⟨by first | kernel_rfl | rfl, ?_⟩) (by assumption) ?_
         rotate_left
         focus intro w hSw; (try dsimp only at hSw); go_simp; try with_reducible rfl
         try (unfold Act.put; dsimp only)
         refine tk (i := 7) (v := ?_) rfl (by kernel_rfl) (fun _ _ _ h => h) (Or.inl ⟨by first | kernel_rfl | rfl, ?_⟩) (by assumption) ?_
         rotate_left
         focus intro w hSw; (try dsimp only at hSw); go_simp; try with_reducible rfl
         try (unfold Act.put; dsimp only)
         refine tk (i := 8) (v := ?_) rfl (by kernel_rfl) (fun _ _ _ h => h) (Or.inl ⟨by first | kernel_rfl | rfl, ?_⟩) (by assumption) ?_
         rotate_left
         focus intro w hSw; (try dsimp only at hSw); go_simp; try with_reducible rfl
         try (unfold Act.put; dsimp only)
         refine wpAnyN_ready (rs := [5]) (by kernel_rfl) (by simp) ?_
         refine AllReadyN.cons rfl (fun K hK => ?_) ?_
         ·go_simp
          go_at_call 72
          refine (HDG.out _).mono ?_
          rintro e w5 ⟨rfl, hb5⟩
          have hbw : Below w1.heap.size w1 w5 := Below.trans (show Below w1.heap.size w1 _ by first | exact hbz.drew | exact hbz) (hb5.mono (by first | exact hszz | (simp; omega)))
          dsimp only
          refine hK.out _ _ ?_ (fun hHeld => ?_)
          ·(try dsimp only)
           try trivial
          clear hK K
          (try change wpAnyN _ _ _ _ _ _ _ _ (Act.put _ (some 39) _) _)
          try (unfold Act.put; dsimp only)
          refine tk (i := 6) (v := ?_) rfl (by kernel_rfl) (fun _ _ _ h => h) (Or.inl ⟨by first | kernel_rfl | rfl, ?_⟩) (by assumption) ?_
          rotate_left
          focus intro w hSw; (try dsimp only at hSw); go_simp; try with_reducible rfl
          try (unfold Act.put; dsimp only)
          refine tk (i := 9) (v := ?_) rfl (by kernel_rfl) (fun _ _ _ h => h) (Or.inl ⟨by first | kernel_rfl | rfl, ?_⟩) (by assumption) ?_
          rotate_left
          focus intro w hSw; (try dsimp only at hSw); go_simp; try with_reducible rfl
          try (unfold Act.put; dsimp only)
          refine tk (i := 10) (v := ?_) rfl (by kernel_rfl) (fun _ _ _ h => h) (Or.inl ⟨by first | kernel_rfl | rfl, ?_⟩) (by assumption) ?_
          rotate_left
          focus intro w hSw; (try dsimp only at hSw); go_simp; try with_reducible rfl
          try (unfold Act.put; dsimp only)
          refine tk (i := 11) (v := ?_) rfl (by kernel_rfl) (fun _ _ _ h => h) (Or.inl ⟨by first | kernel_rfl | rfl, ?_⟩) (by assumption) ?_
          rotate_left
          focus intro w hSw; (try dsimp only at hSw); go_simp; try with_reducible rfl
          try (unfold Act.put; dsimp only)
          refine tk (i := 12) (v := undef) rfl (by kernel_rfl) (fun _ _ _ h => h) (Or.inr ⟨by first | kernel_rfl | rfl, rfl⟩) (by assumption) ?_
          try (unfold Act.put; dsimp only)
          refine tk (i := 13) (v := undef) rfl (by kernel_rfl) (fun _ _ _ h => h) (Or.inr ⟨by first | kernel_rfl | rfl, rfl⟩) (by assumption) ?_
          try (unfold Act.put; dsimp only)
          refine tk (i := 14) (v := undef) rfl (by kernel_rfl) (fun _ _ _ h => h) (Or.inr ⟨by first | kernel_rfl | rfl, rfl⟩) (by assumption) ?_
          try (unfold Act.put; dsimp only)
          refine tk (i := 15) (v := undef) rfl (by kernel_rfl) (fun _ _ _ h => h) (Or.inr ⟨by first | kernel_rfl | rfl, rfl⟩) (by assumption) ?_
          try (unfold Act.put; dsimp only)
          refine tk (i := 16) (v := undef) rfl (by kernel_rfl) (fun _ _ _ h => h) (Or.inr ⟨by first | kernel_rfl | rfl, rfl⟩) (by assumption) ?_
          try (unfold Act.put; dsimp only)
          refine tk (i := 17) (v := undef) rfl (by kernel_rfl) (fun _ _ _ h => h) (Or.inr ⟨by first | kernel_rfl | rfl, rfl⟩) (by assumption) ?_
          try (unfold Act.put; dsimp only)
          refine tk (i := 18) (v := ?_) rfl (by kernel_rfl) (fun _ _ _ h => h) (Or.inl ⟨by first | kernel_rfl | rfl, ?_⟩) (by assumption) ?_
          rotate_left
          focus intro w hSw; (try dsimp only at hSw); go_simp; try with_reducible rfl
          try (unfold Act.put; dsimp only)
          refine wpAnyN_done (by kernel_rfl) ?_ _
          (simp only [List.setIfInBounds_toArray, List.set_cons_succ, List.set_cons_zero])
          go_wp2
          exact ⟨⟨hbw, j + 1, by omega, by simp, HT.out⟩, by simp [intOf]; omega⟩
         exact AllReadyN.nil
      ·have hj4 : j = 251 := by omega
       subst hj4
       have HT := Lib.hid (show ∀ t r, t < m + 1 → r ≤ 250 → textL (t + 1) r ≠ s.data.toList from fun t r ht hr => by
        rcases Nat.lt_or_ge t m with h' | h'
        ·exact HNO.out t r h' hr
        ·rw [show t + 1 = K by have := HK.out; omega]; exact HNR.out r (by omega))
       go_wp2
       exact ⟨⟨hbz, m + 1, by omega, by have := HK.out; congr 1; omega, HT.out⟩, by have := HK.out; simp [intOf]; omega⟩
    ·have hm4 : m = 250 := by omega
     subst hm4
     have HN := Lib.hid (readL_none HFULL.out (fun t r h1 h2 h3 => by
      have := HNO.out (t - 1) r (by omega) h3
      rwa [show t - 1 + 1 = t by omega] at this))
     rw [HSZ.out] at HN
     have r0' := ((hby).cell (p := ⟨w.heap.size, 0, none⟩) (by have := HS1.out; show w.heap.size < _; omega)).trans HR0.out
     have r1' := ((hby).cell (p := ⟨w.heap.size, 1, none⟩) (by have := HS1.out; show w.heap.size < _; omega)).trans HR1.out
     have fz' := ((hby).frozen (p := ⟨w.heap.size, 0, none⟩) (by have := HS1.out; show w.heap.size < _; omega)).trans HZ0.out
     have fz1' := ((hby).frozen (p := ⟨w.heap.size, 1, none⟩) (by have := HS1.out; show w.heap.size < _; omega)).trans HZ1.out
     obtain ⟨q0, q1⟩ := set2 r0' r1' (.int .i64 0) (.int .i64 0)
     have HBF := Lib.hid (show Below w.heap.size w (((wr).setCell ⟨w.heap.size, 0, none⟩ (.int .i64 0)).setCell ⟨w.heap.size, 1, none⟩ (.int .i64 0)) from Below.setCell (Below.setCell (HBA.out.trans ((hby).mono (by have := HS1.out; omega))) (Nat.le_refl _) _) (Nat.le_refl _) _)
     go_wp2
     refine bodyPost_ret (by simp [results, Tryz.results46, go_sem, q0, q1] <;> rfl) rfl ?_
     rw [HN.out]
     exact ⟨rfl, HBF.out⟩
end Go.Proofs.YtjpjlfjaapfnkaaGreatDoor
namespace Go.Proofs.YtjpjlfjaapfnkaaGreatDoor
open Go.ChangeShapes Go.WideShapes Go.ChangeAt Go.RowKit
theorem refis {e : Ending} {L : List UInt8} (h : RefIs e (readL L)) : ∃ a b, e = .returned (.tuple #[.agg #[.int .i64 ((resR L).1 : Nat), .int .i64 ((resR L).2 : Nat)], .int .i64 a, .int .i64 b]) := by
 unfold resR
 rw [parse_eq]
 cases hq : readL L with
 | inl p => obtain ⟨t, r⟩ := p; rw [hq] at h; exact ⟨_, _, h⟩
 | inr i => rw [hq] at h; exact ⟨_, _, h⟩
end Go.Proofs.YtjpjlfjaapfnkaaGreatDoor

/-
  text.Event, kind by kind. No conditions beyond those that each theorem states.
-/
import Derived.Test.YtjpjlfjaapfnkaaGreatDoorDML
set_option linter.unusedVariables false
set_option linter.unusedSimpArgs false
namespace Go.Proofs.YtjpjlfjaapfnkaaGreatDoor
open Go.ChangeShapes Go.WideShapes Go.ChangeAt Go.RowKit
open C20 (Ev formB evC)
theorem dec_len8 {n : Nat} (h : n ≤ 99999999) : (decL n).length ≤ 8 :=
 dec_len (n := n) (k := 8) (by have e8 : (10 : Nat) ^ 8 = 100000000 := by decide
                               omega) (by decide)
theorem text_len8 {t r : Nat} (ht : t ≤ 250) (hr : r ≤ 250) : (textL t r).length ≤ 8 := by
 have h1 := dig_len t
 have h2 := dig_len r
 unfold textL
 split <;> simp <;> omega
theorem mode_len8 (m : Nat) : (modeL m).length ≤ 8 := by
 unfold modeL; (repeat' split) <;> decide
theorem heap_drew' (w : World) (k : Nat) : w.heap[k]? = w.heap[k]? := rfl
set_option maxRecDepth 100000 in
set_option maxHeartbeats 4000000 in
theorem event_1 (x c : Nat) (hx : x ≤ 99999999) (hc : c ≤ 99999999) (w : World) (hT : TxW w) (hf : formB ⟨1, (c : Int), (x : Int), 0, 0, 0, 0⟩ = true) :
 Calls Tryz.prog 16 #[.agg #[.int .i64 1, .int .i64 c, .int .i64 x, .int .i64 0, .int .i64 0, .int .i64 0, .int .i64 0]] w fun e w' => e = .returned (.tuple #[.string (bsA (jnL 32 [evName 1, decL x, decL c])), .nilIface]) ∧ Below w.heap.size w w' := by
 have hbA : Below w.heap.size w (w.alloc (.cells #[.int .i64 1, .int .i64 c, .int .i64 x, .int .i64 0, .int .i64 0, .int .i64 0, .int .i64 0] 44)) := (Below.refl _ _).alloc (Nat.le_refl _) _
 have HF := Lib.hid (form_any ⟨1, (c : Int), (x : Int), 0, 0, 0, 0⟩ (w.alloc (.cells #[.int .i64 1, .int .i64 c, .int .i64 x, .int .i64 0, .int .i64 0, .int .i64 0, .int .i64 0] 44)))
 rw [hf] at HF
 unfold evC at HF
 simp only at HF
 have HJ := Lib.hid (show (jnL 32 [evName 1, decL x, decL c]).length ≤ 1000000 from by
  simp only [jnL, List.length_append, List.length_cons]
  have hnm : (evName 1).length ≤ 10 := by decide
  have s0 : (decL x).length ≤ 8 := dec_len8 hx
  have s1 : (decL c).length ≤ 8 := dec_len8 hc
  omega)
 have HTA := Lib.hid (hT.below hbA)
 have HBA := Lib.hid hbA
 clear hT hf hbA
 go_enter Tryz.func16, Tryz.ntmps16
 go_wp2_with fail
 refine HF.out.mono ?_
 rintro e w5 ⟨rfl, hb5⟩
 have HT5 := Lib.hid (HTA.out.below hb5)
 have HB5 := Lib.hid (HBA.out.trans (hb5.mono HBA.out.size))
 have HGW := Lib.hid (show w.heap.size < w5.heap.size from Nat.lt_of_lt_of_le (by simp) hb5.size)
 have e0 := cell_keep hb5 (b := w.heap.size) (o := 0) (u := .int .i64 1) (by simp)
 have e1 := cell_keep hb5 (b := w.heap.size) (o := 1) (u := .int .i64 c) (by simp)
 have e2 := cell_keep hb5 (b := w.heap.size) (o := 2) (u := .int .i64 x) (by simp)
 have e3 := cell_keep hb5 (b := w.heap.size) (o := 3) (u := .int .i64 0) (by simp)
 have e4 := cell_keep hb5 (b := w.heap.size) (o := 4) (u := .int .i64 0) (by simp)
 have e5 := cell_keep hb5 (b := w.heap.size) (o := 5) (u := .int .i64 0) (by simp)
 have e6 := cell_keep hb5 (b := w.heap.size) (o := 6) (u := .int .i64 0) (by simp)
 clear hb5 HF HTA HBA
 have hx' : ¬ 99999999 < (x : Int) := by omega
 go_wp2_with fail
 obtain ⟨g, hg⟩ : ∃ g, w.heap.size = g := ⟨_, rfl⟩
 rw [hg] at e0 e1 e2 e3 e4 e5 e6 HB5 HGW ⊢
 have HG := Lib.hid hg
 clear hg
 refine wp_region_N (S := (fun w' => w'.cell? ⟨g, 1, none⟩ = some (.int .i64 c) ∧ w'.cell? ⟨g, 2, none⟩ = some (.int .i64 x))) (fun i => true) (by kernel_rfl) ?_ (fun hHeld => ?_)
 ·(try dsimp only)
  first
   | (refine ⟨?_, ?_⟩ <;> with_reducible assumption)
   | (refine ⟨cell_keep ?_ e1, cell_keep ?_ e2⟩ <;> (first | exact hbw | exact hbw.drew | exact hbw.alloc hbw.size _ | exact (hbw.alloc hbw.size _).drew | (go_grown; done)))
 refine tk (i := 0) (v := ?_) rfl (by kernel_rfl) (fun _ _ _ h => h) (Or.inl ⟨by first | kernel_rfl | rfl, ?_⟩) (by assumption) ?_
 rotate_left
 focus intro w hSw; (try dsimp only at hSw); go_simp; try with_reducible rfl
 try (unfold Act.put; dsimp only)
 refine tk (i := 1) (v := ?_) rfl (by kernel_rfl) (fun _ _ _ h => h) (Or.inl ⟨by first | kernel_rfl | rfl, ?_⟩) (by assumption) ?_
 rotate_left
 focus intro w hSw; (try dsimp only at hSw); go_simp; try with_reducible rfl
 try (unfold Act.put; dsimp only)
 refine tk (i := 2) (v := ?_) rfl (by kernel_rfl) (fun _ _ _ h => h) (Or.inl ⟨by first | kernel_rfl | rfl, ?_⟩) (by assumption) ?_
 rotate_left
 focus intro w hSw; (try dsimp only at hSw); go_simp; try with_reducible rfl
 try (unfold Act.put; dsimp only)
 refine tk (i := 4) (v := ?_) rfl (by kernel_rfl) (fun _ _ _ h => h) (Or.inl ⟨by first | kernel_rfl | rfl, ?_⟩) (by assumption) ?_
 rotate_left
 focus intro w hSw; (try dsimp only at hSw); go_simp; try with_reducible rfl
 try (unfold Act.put; dsimp only)
 refine tk (i := 5) (v := ?_) rfl (by kernel_rfl) (fun _ _ _ h => h) (Or.inl ⟨by first | kernel_rfl | rfl, ?_⟩) (by assumption) ?_
 rotate_left
 focus intro w hSw; (try dsimp only at hSw); go_simp; try with_reducible rfl
 try (unfold Act.put; dsimp only)
 refine tk (i := 6) (v := ?_) rfl (by kernel_rfl) (fun _ _ _ h => h) (Or.inl ⟨by first | kernel_rfl | rfl, ?_⟩) (by assumption) ?_
 rotate_left
 focus intro w hSw; (try dsimp only at hSw); go_simp; try with_reducible rfl
 try (unfold Act.put; dsimp only)
 refine wpAnyN_ready (rs := [3]) (by kernel_rfl) (by simp) ?_
 refine AllReadyN.cons rfl (fun K hK => ?_) ?_
 ·go_simp
  go_at_call 30
  refine (itoa_any x _ (HT5.out.below (show Below w5.heap.size w5 _ by first | exact Below.refl _ _ | exact (Below.refl _ _).drew | exact hbw | exact hbw.drew | exact hbw.alloc hbw.size _ | exact (hbw.alloc hbw.size _).drew | go_grown)) hx).mono ?_
  rintro e w6 ⟨rfl, hb6⟩
  have hbw : Below w5.heap.size w5 w6 := Below.trans (show Below w5.heap.size w5 _ by first | exact Below.refl _ _ | exact (Below.refl _ _).drew | exact hbw | exact hbw.drew | exact hbw.alloc hbw.size _ | exact (hbw.alloc hbw.size _).drew | go_grown) (hb6.mono (by first | exact Nat.le_refl _ | exact hbw.size | (simp; done) | (have := hbw.size; simp; omega)))
  dsimp only
  refine hK.out _ _ ?_ (fun hHeld => ?_)
  ·(try dsimp only)
   first
    | (refine ⟨?_, ?_⟩ <;> with_reducible assumption)
    | (refine ⟨cell_keep ?_ e1, cell_keep ?_ e2⟩ <;> (first | exact hbw | exact hbw.drew | exact hbw.alloc hbw.size _ | exact (hbw.alloc hbw.size _).drew | (go_grown; done)))
  clear hK K
  (try change wpAnyN _ _ _ _ _ _ _ _ (Act.put _ (some 22) _) _)
  try (unfold Act.put; dsimp only)
  refine wpAnyN_ready (rs := [7]) (by kernel_rfl) (by simp) ?_
  refine AllReadyN.cons rfl (fun K hK => ?_) ?_
  ·go_simp
   go_at_call 30
   refine (itoa_any c _ (HT5.out.below (show Below w5.heap.size w5 _ by first | exact Below.refl _ _ | exact (Below.refl _ _).drew | exact hbw | exact hbw.drew | exact hbw.alloc hbw.size _ | exact (hbw.alloc hbw.size _).drew | go_grown)) hc).mono ?_
   rintro e w6 ⟨rfl, hb6⟩
   have hbw : Below w5.heap.size w5 w6 := Below.trans (show Below w5.heap.size w5 _ by first | exact Below.refl _ _ | exact (Below.refl _ _).drew | exact hbw | exact hbw.drew | exact hbw.alloc hbw.size _ | exact (hbw.alloc hbw.size _).drew | go_grown) (hb6.mono (by first | exact Nat.le_refl _ | exact hbw.size | (simp; done) | (have := hbw.size; simp; omega)))
   dsimp only
   refine hK.out _ _ ?_ (fun hHeld => ?_)
   ·(try dsimp only)
    first
     | (refine ⟨?_, ?_⟩ <;> with_reducible assumption)
     | (refine ⟨cell_keep ?_ e1, cell_keep ?_ e2⟩ <;> (first | exact hbw | exact hbw.drew | exact hbw.alloc hbw.size _ | exact (hbw.alloc hbw.size _).drew | (go_grown; done)))
   clear hK K
   (try change wpAnyN _ _ _ _ _ _ _ _ (Act.put _ (some 26) _) _)
   try (unfold Act.put; dsimp only)
   refine wpAnyN_ready (rs := [8]) (by kernel_rfl) (by simp) ?_
   refine AllReadyN.cons rfl (fun K hK => ?_) ?_
   ·go_simp
    refine hK.out _ _ ?_ (fun hHeld => ?_)
    ·(try dsimp only)
     first
      | (refine ⟨?_, ?_⟩ <;> with_reducible assumption)
      | (refine ⟨cell_keep ?_ e1, cell_keep ?_ e2⟩ <;> (first | exact hbw | exact hbw.drew | exact hbw.alloc hbw.size _ | exact (hbw.alloc hbw.size _).drew | (go_grown; done)))
    clear hK K
    (try change wpAnyN _ _ _ _ _ _ _ _ (Act.put _ (some 27) _) _)
    try (unfold Act.put; dsimp only)
    refine wpAnyN_ready (rs := [9]) (by kernel_rfl) (by simp) ?_
    refine AllReadyN.cons rfl (fun K hK => ?_) ?_
    ·go_simp
     go_at_call 29
     refine (line_any (evName 1) _ 2 2 [decL x, decL c] _ (rds_block (g := _) (T := 9) (fr := (0, 0)) (by rw [heap_drew', heap_push, if_pos rfl]; rfl)) rfl (by omega) HJ.out).mono ?_
     rintro e w6 ⟨rfl, hb6⟩
     have hbw : Below w5.heap.size w5 w6 := Below.trans (show Below w5.heap.size w5 _ by first | exact Below.refl _ _ | exact (Below.refl _ _).drew | exact hbw | exact hbw.drew | exact hbw.alloc hbw.size _ | exact (hbw.alloc hbw.size _).drew | go_grown) (hb6.mono (by first | exact Nat.le_refl _ | exact hbw.size | (simp; done) | (have := hbw.size; simp; omega)))
     dsimp only
     refine hK.out _ _ ?_ (fun hHeld => ?_)
     ·(try dsimp only)
      first
       | (refine ⟨?_, ?_⟩ <;> with_reducible assumption)
       | (refine ⟨cell_keep ?_ e1, cell_keep ?_ e2⟩ <;> (first | exact hbw | exact hbw.drew | exact hbw.alloc hbw.size _ | exact (hbw.alloc hbw.size _).drew | (go_grown; done)))
     clear hK K
     (try change wpAnyN _ _ _ _ _ _ _ _ (Act.put _ (some 28) _) _)
     try (unfold Act.put; dsimp only)
     refine tk (i := 10) (v := ?_) rfl (by kernel_rfl) (fun _ _ _ h => h) (Or.inl ⟨by first | kernel_rfl | rfl, ?_⟩) (by assumption) ?_
     rotate_left
     focus intro w hSw; (try dsimp only at hSw); go_simp; try with_reducible rfl
     try (unfold Act.put; dsimp only)
     refine tk (i := 11) (v := ?_) rfl (by kernel_rfl) (fun _ _ _ h => h) (Or.inl ⟨by first | kernel_rfl | rfl, ?_⟩) (by assumption) ?_
     rotate_left
     focus intro w hSw; (try dsimp only at hSw); go_simp; try with_reducible rfl
     try (unfold Act.put; dsimp only)
     refine wpAnyN_done (by kernel_rfl) ?_ _
     go_wp2
     go_ret2
     rw [HG.out]
     exact ⟨rfl, (HB5.out.trans (hbw.mono (Nat.le_of_lt HGW.out)))⟩
    exact AllReadyN.nil
   exact AllReadyN.nil
  exact AllReadyN.nil
 exact AllReadyN.nil
set_option maxRecDepth 100000 in
set_option maxHeartbeats 4000000 in
theorem event_2 (x t r m : Nat) (hx : x ≤ 99999999) (ht : 1 ≤ t ∧ t ≤ 250) (hr : r ≤ 250) (hm : m ≤ 4) (w : World) (hT : TxW w) (hf : formB ⟨2, 0, (x : Int), (t : Int), (r : Int), (m : Int), 0⟩ = true) :
 Calls Tryz.prog 16 #[.agg #[.int .i64 2, .int .i64 0, .int .i64 x, .int .i64 t, .int .i64 r, .int .i64 m, .int .i64 0]] w fun e w' => e = .returned (.tuple #[.string (bsA (jnL 32 [evName 2, decL x, textL t r, modeL m])), .nilIface]) ∧ Below w.heap.size w w' := by
 have hbA : Below w.heap.size w (w.alloc (.cells #[.int .i64 2, .int .i64 0, .int .i64 x, .int .i64 t, .int .i64 r, .int .i64 m, .int .i64 0] 44)) := (Below.refl _ _).alloc (Nat.le_refl _) _
 have HF := Lib.hid (form_any ⟨2, 0, (x : Int), (t : Int), (r : Int), (m : Int), 0⟩ (w.alloc (.cells #[.int .i64 2, .int .i64 0, .int .i64 x, .int .i64 t, .int .i64 r, .int .i64 m, .int .i64 0] 44)))
 rw [hf] at HF
 unfold evC at HF
 simp only at HF
 have HJ := Lib.hid (show (jnL 32 [evName 2, decL x, textL t r, modeL m]).length ≤ 1000000 from by
  simp only [jnL, List.length_append, List.length_cons]
  have hnm : (evName 2).length ≤ 10 := by decide
  have s0 : (decL x).length ≤ 8 := dec_len8 hx
  have s1 : (textL t r).length ≤ 8 := text_len8 ht.2 hr
  have s2 : (modeL m).length ≤ 8 := mode_len8 m
  omega)
 have HTA := Lib.hid (hT.below hbA)
 have HBA := Lib.hid hbA
 clear hT hf hbA
 go_enter Tryz.func16, Tryz.ntmps16
 go_wp2_with fail
 refine HF.out.mono ?_
 rintro e w5 ⟨rfl, hb5⟩
 have HT5 := Lib.hid (HTA.out.below hb5)
 have HB5 := Lib.hid (HBA.out.trans (hb5.mono HBA.out.size))
 have HGW := Lib.hid (show w.heap.size < w5.heap.size from Nat.lt_of_lt_of_le (by simp) hb5.size)
 have e0 := cell_keep hb5 (b := w.heap.size) (o := 0) (u := .int .i64 2) (by simp)
 have e1 := cell_keep hb5 (b := w.heap.size) (o := 1) (u := .int .i64 0) (by simp)
 have e2 := cell_keep hb5 (b := w.heap.size) (o := 2) (u := .int .i64 x) (by simp)
 have e3 := cell_keep hb5 (b := w.heap.size) (o := 3) (u := .int .i64 t) (by simp)
 have e4 := cell_keep hb5 (b := w.heap.size) (o := 4) (u := .int .i64 r) (by simp)
 have e5 := cell_keep hb5 (b := w.heap.size) (o := 5) (u := .int .i64 m) (by simp)
 have e6 := cell_keep hb5 (b := w.heap.size) (o := 6) (u := .int .i64 0) (by simp)
 clear hb5 HF HTA HBA
 have hx' : ¬ 99999999 < (x : Int) := by omega
 have hm4 : (m : Int) < 5 := by omega
 go_wp2_with fail
 obtain ⟨g, hg⟩ : ∃ g, w.heap.size = g := ⟨_, rfl⟩
 rw [hg] at e0 e1 e2 e3 e4 e5 e6 HB5 HGW ⊢
 have HG := Lib.hid hg
 clear hg
 refine wp_region_N (S := (fun w' => w'.cell? ⟨g, 2, none⟩ = some (.int .i64 x) ∧ w'.cell? ⟨g, 3, none⟩ = some (.int .i64 t) ∧ w'.cell? ⟨g, 4, none⟩ = some (.int .i64 r) ∧ w'.cell? ⟨g, 5, none⟩ = some (.int .i64 m))) (fun i => true) (by kernel_rfl) ?_ (fun hHeld => ?_)
 ·(try dsimp only)
  first
   | (refine ⟨?_, ?_, ?_, ?_⟩ <;> with_reducible assumption)
   | (refine ⟨cell_keep ?_ e2, cell_keep ?_ e3, cell_keep ?_ e4, cell_keep ?_ e5⟩ <;> (first | exact hbw | exact hbw.drew | exact hbw.alloc hbw.size _ | exact (hbw.alloc hbw.size _).drew | (go_grown; done)))
 refine tk (i := 0) (v := ?_) rfl (by kernel_rfl) (fun _ _ _ h => h) (Or.inl ⟨by first | kernel_rfl | rfl, ?_⟩) (by assumption) ?_
 rotate_left
 focus intro w hSw; (try dsimp only at hSw); go_simp; try with_reducible rfl
 try (unfold Act.put; dsimp only)
 refine tk (i := 1) (v := ?_) rfl (by kernel_rfl) (fun _ _ _ h => h) (Or.inl ⟨by first | kernel_rfl | rfl, ?_⟩) (by assumption) ?_
 rotate_left
 focus intro w hSw; (try dsimp only at hSw); go_simp; try with_reducible rfl
 try (unfold Act.put; dsimp only)
 refine tk (i := 2) (v := ?_) rfl (by kernel_rfl) (fun _ _ _ h => h) (Or.inl ⟨by first | kernel_rfl | rfl, ?_⟩) (by assumption) ?_
 rotate_left
 focus intro w hSw; (try dsimp only at hSw); go_simp; try with_reducible rfl
 try (unfold Act.put; dsimp only)
 refine tk (i := 4) (v := ?_) rfl (by kernel_rfl) (fun _ _ _ h => h) (Or.inl ⟨by first | kernel_rfl | rfl, ?_⟩) (by assumption) ?_
 rotate_left
 focus intro w hSw; (try dsimp only at hSw); go_simp; try with_reducible rfl
 try (unfold Act.put; dsimp only)
 refine tk (i := 5) (v := ?_) rfl (by kernel_rfl) (fun _ _ _ h => h) (Or.inl ⟨by first | kernel_rfl | rfl, ?_⟩) (by assumption) ?_
 rotate_left
 focus intro w hSw; (try dsimp only at hSw); go_simp; try with_reducible rfl
 try (unfold Act.put; dsimp only)
 refine tk (i := 8) (v := ?_) rfl (by kernel_rfl) (fun _ _ _ h => h) (Or.inl ⟨by first | kernel_rfl | rfl, ?_⟩) (by assumption) ?_
 rotate_left
 focus intro w hSw; (try dsimp only at hSw); go_simp; try with_reducible rfl
 try (unfold Act.put; dsimp only)
 refine tk (i := 9) (v := ?_) rfl (by kernel_rfl) (fun _ _ _ h => h) (Or.inl ⟨by first | kernel_rfl | rfl, ?_⟩) (by assumption) ?_
 rotate_left
 focus intro w hSw; (try dsimp only at hSw); go_simp; try with_reducible rfl
 try (unfold Act.put; dsimp only)
 refine wpAnyN_ready (rs := [3]) (by kernel_rfl) (by simp) ?_
 refine AllReadyN.cons rfl (fun K hK => ?_) ?_
 ·go_simp
  go_at_call 30
  refine (itoa_any x _ (HT5.out.below (show Below w5.heap.size w5 _ by first | exact Below.refl _ _ | exact (Below.refl _ _).drew | exact hbw | exact hbw.drew | exact hbw.alloc hbw.size _ | exact (hbw.alloc hbw.size _).drew | go_grown)) hx).mono ?_
  rintro e w6 ⟨rfl, hb6⟩
  have hbw : Below w5.heap.size w5 w6 := Below.trans (show Below w5.heap.size w5 _ by first | exact Below.refl _ _ | exact (Below.refl _ _).drew | exact hbw | exact hbw.drew | exact hbw.alloc hbw.size _ | exact (hbw.alloc hbw.size _).drew | go_grown) (hb6.mono (by first | exact Nat.le_refl _ | exact hbw.size | (simp; done) | (have := hbw.size; simp; omega)))
  dsimp only
  refine hK.out _ _ ?_ (fun hHeld => ?_)
  ·(try dsimp only)
   first
    | (refine ⟨?_, ?_, ?_, ?_⟩ <;> with_reducible assumption)
    | (refine ⟨cell_keep ?_ e2, cell_keep ?_ e3, cell_keep ?_ e4, cell_keep ?_ e5⟩ <;> (first | exact hbw | exact hbw.drew | exact hbw.alloc hbw.size _ | exact (hbw.alloc hbw.size _).drew | (go_grown; done)))
  clear hK K
  (try change wpAnyN _ _ _ _ _ _ _ _ (Act.put _ (some 34) _) _)
  try (unfold Act.put; dsimp only)
  refine wpAnyN_ready (rs := [6]) (by kernel_rfl) (by simp) ?_
  refine AllReadyN.cons rfl (fun K hK => ?_) ?_
  ·go_simp
   go_at_call 31
   refine (place_any t r _ (HT5.out.below (show Below w5.heap.size w5 _ by first | exact Below.refl _ _ | exact (Below.refl _ _).drew | exact hbw | exact hbw.drew | exact hbw.alloc hbw.size _ | exact (hbw.alloc hbw.size _).drew | go_grown)) ht hr).mono ?_
   rintro e w6 ⟨rfl, hb6⟩
   have hbw : Below w5.heap.size w5 w6 := Below.trans (show Below w5.heap.size w5 _ by first | exact Below.refl _ _ | exact (Below.refl _ _).drew | exact hbw | exact hbw.drew | exact hbw.alloc hbw.size _ | exact (hbw.alloc hbw.size _).drew | go_grown) (hb6.mono (by first | exact Nat.le_refl _ | exact hbw.size | (simp; done) | (have := hbw.size; simp; omega)))
   dsimp only
   refine hK.out _ _ ?_ (fun hHeld => ?_)
   ·(try dsimp only)
    first
     | (refine ⟨?_, ?_, ?_, ?_⟩ <;> with_reducible assumption)
     | (refine ⟨cell_keep ?_ e2, cell_keep ?_ e3, cell_keep ?_ e4, cell_keep ?_ e5⟩ <;> (first | exact hbw | exact hbw.drew | exact hbw.alloc hbw.size _ | exact (hbw.alloc hbw.size _).drew | (go_grown; done)))
   clear hK K
   (try change wpAnyN _ _ _ _ _ _ _ _ (Act.put _ (some 37) _) _)
   try (unfold Act.put; dsimp only)
   refine wpAnyN_ready (rs := [7]) (by kernel_rfl) (by simp) ?_
   refine AllReadyN.cons rfl (fun K hK => ?_) ?_
   ·go_simp
    go_at_call 32
    refine (modes_at _).mono ?_
    rintro e w6 ⟨rfl, hcs, hb6⟩
    have hmc := hcs m (by omega)
    have hbw : Below w5.heap.size w5 w6 := Below.trans (show Below w5.heap.size w5 _ by first | exact Below.refl _ _ | exact (Below.refl _ _).drew | exact hbw | exact hbw.drew | exact hbw.alloc hbw.size _ | exact (hbw.alloc hbw.size _).drew | go_grown) (hb6.mono (by first | exact Nat.le_refl _ | exact hbw.size | (simp; done) | (have := hbw.size; simp; omega)))
    dsimp only
    refine hK.out _ _ ?_ (fun hHeld => ?_)
    ·(try dsimp only)
     first
      | (refine ⟨?_, ?_, ?_, ?_⟩ <;> with_reducible assumption)
      | (refine ⟨cell_keep ?_ e2, cell_keep ?_ e3, cell_keep ?_ e4, cell_keep ?_ e5⟩ <;> (first | exact hbw | exact hbw.drew | exact hbw.alloc hbw.size _ | exact (hbw.alloc hbw.size _).drew | (go_grown; done)))
    clear hK K
    (try change wpAnyN _ _ _ _ _ _ _ _ (Act.put _ (some 38) _) _)
    try (unfold Act.put; dsimp only)
    refine tk (i := 10) (v := ?_) rfl (by kernel_rfl) (fun _ _ _ h => h) (Or.inl ⟨by first | kernel_rfl | rfl, ?_⟩) (by assumption) ?_
    rotate_left
    focus intro w hSw; (try dsimp only at hSw); go_simp; try with_reducible rfl
    try (unfold Act.put; dsimp only)
    refine wpAnyN_ready (rs := [11]) (by kernel_rfl) (by simp) ?_
    refine AllReadyN.cons rfl (fun K hK => ?_) ?_
    ·go_simp
     refine hK.out _ _ ?_ (fun hHeld => ?_)
     ·(try dsimp only)
      first
       | (refine ⟨?_, ?_, ?_, ?_⟩ <;> with_reducible assumption)
       | (refine ⟨cell_keep ?_ e2, cell_keep ?_ e3, cell_keep ?_ e4, cell_keep ?_ e5⟩ <;> (first | exact hbw | exact hbw.drew | exact hbw.alloc hbw.size _ | exact (hbw.alloc hbw.size _).drew | (go_grown; done)))
     clear hK K
     (try change wpAnyN _ _ _ _ _ _ _ _ (Act.put _ (some 42) _) _)
     try (unfold Act.put; dsimp only)
     refine wpAnyN_ready (rs := [12]) (by kernel_rfl) (by simp) ?_
     refine AllReadyN.cons rfl (fun K hK => ?_) ?_
     ·go_simp
      refine hK.out _ _ ?_ (fun hHeld => ?_)
      ·(try dsimp only)
       first
        | (refine ⟨?_, ?_, ?_, ?_⟩ <;> with_reducible assumption)
        | (refine ⟨cell_keep ?_ e2, cell_keep ?_ e3, cell_keep ?_ e4, cell_keep ?_ e5⟩ <;> (first | exact hbw | exact hbw.drew | exact hbw.alloc hbw.size _ | exact (hbw.alloc hbw.size _).drew | (go_grown; done)))
      clear hK K
      (try change wpAnyN _ _ _ _ _ _ _ _ (Act.put _ (some 43) _) _)
      try (unfold Act.put; dsimp only)
      refine wpAnyN_ready (rs := [13]) (by kernel_rfl) (by simp) ?_
      refine AllReadyN.cons rfl (fun K hK => ?_) ?_
      ·go_simp
       go_at_call 29
       refine (line_any (evName 2) _ 3 3 [decL x, textL t r, modeL m] _ (rds_block (g := _) (T := 9) (fr := (0, 0)) (by rw [heap_drew', heap_push, if_pos rfl]; rfl)) rfl (by omega) HJ.out).mono ?_
       rintro e w6 ⟨rfl, hb6⟩
       have hbw : Below w5.heap.size w5 w6 := Below.trans (show Below w5.heap.size w5 _ by first | exact Below.refl _ _ | exact (Below.refl _ _).drew | exact hbw | exact hbw.drew | exact hbw.alloc hbw.size _ | exact (hbw.alloc hbw.size _).drew | go_grown) (hb6.mono (by first | exact Nat.le_refl _ | exact hbw.size | (simp; done) | (have := hbw.size; simp; omega)))
       dsimp only
       refine hK.out _ _ ?_ (fun hHeld => ?_)
       ·(try dsimp only)
        first
         | (refine ⟨?_, ?_, ?_, ?_⟩ <;> with_reducible assumption)
         | (refine ⟨cell_keep ?_ e2, cell_keep ?_ e3, cell_keep ?_ e4, cell_keep ?_ e5⟩ <;> (first | exact hbw | exact hbw.drew | exact hbw.alloc hbw.size _ | exact (hbw.alloc hbw.size _).drew | (go_grown; done)))
       clear hK K
       (try change wpAnyN _ _ _ _ _ _ _ _ (Act.put _ (some 44) _) _)
       try (unfold Act.put; dsimp only)
       refine tk (i := 14) (v := ?_) rfl (by kernel_rfl) (fun _ _ _ h => h) (Or.inl ⟨by first | kernel_rfl | rfl, ?_⟩) (by assumption) ?_
       rotate_left
       focus intro w hSw; (try dsimp only at hSw); go_simp; try with_reducible rfl
       try (unfold Act.put; dsimp only)
       refine tk (i := 15) (v := ?_) rfl (by kernel_rfl) (fun _ _ _ h => h) (Or.inl ⟨by first | kernel_rfl | rfl, ?_⟩) (by assumption) ?_
       rotate_left
       focus intro w hSw; (try dsimp only at hSw); go_simp; try with_reducible rfl
       try (unfold Act.put; dsimp only)
       refine wpAnyN_done (by kernel_rfl) ?_ _
       go_wp2
       go_ret2
       rw [HG.out]
       exact ⟨rfl, (HB5.out.trans (hbw.mono (Nat.le_of_lt HGW.out)))⟩
      exact AllReadyN.nil
     exact AllReadyN.nil
    exact AllReadyN.nil
   exact AllReadyN.nil
  exact AllReadyN.nil
 exact AllReadyN.nil
set_option maxRecDepth 100000 in
set_option maxHeartbeats 4000000 in
theorem event_3 (x t r m : Nat) (hx : x ≤ 99999999) (ht : 1 ≤ t ∧ t ≤ 250) (hr : r ≤ 250) (hm : m ≤ 4) (w : World) (hT : TxW w) (hf : formB ⟨3, 0, (x : Int), (t : Int), (r : Int), (m : Int), 0⟩ = true) :
 Calls Tryz.prog 16 #[.agg #[.int .i64 3, .int .i64 0, .int .i64 x, .int .i64 t, .int .i64 r, .int .i64 m, .int .i64 0]] w fun e w' => e = .returned (.tuple #[.string (bsA (jnL 32 [evName 3, decL x, textL t r, modeL m])), .nilIface]) ∧ Below w.heap.size w w' := by
 have hbA : Below w.heap.size w (w.alloc (.cells #[.int .i64 3, .int .i64 0, .int .i64 x, .int .i64 t, .int .i64 r, .int .i64 m, .int .i64 0] 44)) := (Below.refl _ _).alloc (Nat.le_refl _) _
 have HF := Lib.hid (form_any ⟨3, 0, (x : Int), (t : Int), (r : Int), (m : Int), 0⟩ (w.alloc (.cells #[.int .i64 3, .int .i64 0, .int .i64 x, .int .i64 t, .int .i64 r, .int .i64 m, .int .i64 0] 44)))
 rw [hf] at HF
 unfold evC at HF
 simp only at HF
 have HJ := Lib.hid (show (jnL 32 [evName 3, decL x, textL t r, modeL m]).length ≤ 1000000 from by
  simp only [jnL, List.length_append, List.length_cons]
  have hnm : (evName 3).length ≤ 10 := by decide
  have s0 : (decL x).length ≤ 8 := dec_len8 hx
  have s1 : (textL t r).length ≤ 8 := text_len8 ht.2 hr
  have s2 : (modeL m).length ≤ 8 := mode_len8 m
  omega)
 have HTA := Lib.hid (hT.below hbA)
 have HBA := Lib.hid hbA
 clear hT hf hbA
 go_enter Tryz.func16, Tryz.ntmps16
 go_wp2_with fail
 refine HF.out.mono ?_
 rintro e w5 ⟨rfl, hb5⟩
 have HT5 := Lib.hid (HTA.out.below hb5)
 have HB5 := Lib.hid (HBA.out.trans (hb5.mono HBA.out.size))
 have HGW := Lib.hid (show w.heap.size < w5.heap.size from Nat.lt_of_lt_of_le (by simp) hb5.size)
 have e0 := cell_keep hb5 (b := w.heap.size) (o := 0) (u := .int .i64 3) (by simp)
 have e1 := cell_keep hb5 (b := w.heap.size) (o := 1) (u := .int .i64 0) (by simp)
 have e2 := cell_keep hb5 (b := w.heap.size) (o := 2) (u := .int .i64 x) (by simp)
 have e3 := cell_keep hb5 (b := w.heap.size) (o := 3) (u := .int .i64 t) (by simp)
 have e4 := cell_keep hb5 (b := w.heap.size) (o := 4) (u := .int .i64 r) (by simp)
 have e5 := cell_keep hb5 (b := w.heap.size) (o := 5) (u := .int .i64 m) (by simp)
 have e6 := cell_keep hb5 (b := w.heap.size) (o := 6) (u := .int .i64 0) (by simp)
 clear hb5 HF HTA HBA
 have hx' : ¬ 99999999 < (x : Int) := by omega
 have hm4 : (m : Int) < 5 := by omega
 go_wp2_with fail
 obtain ⟨g, hg⟩ : ∃ g, w.heap.size = g := ⟨_, rfl⟩
 rw [hg] at e0 e1 e2 e3 e4 e5 e6 HB5 HGW ⊢
 have HG := Lib.hid hg
 clear hg
 refine wp_region_N (S := (fun w' => w'.cell? ⟨g, 2, none⟩ = some (.int .i64 x) ∧ w'.cell? ⟨g, 3, none⟩ = some (.int .i64 t) ∧ w'.cell? ⟨g, 4, none⟩ = some (.int .i64 r) ∧ w'.cell? ⟨g, 5, none⟩ = some (.int .i64 m))) (fun i => true) (by kernel_rfl) ?_ (fun hHeld => ?_)
 ·(try dsimp only)
  first
   | (refine ⟨?_, ?_, ?_, ?_⟩ <;> with_reducible assumption)
   | (refine ⟨cell_keep ?_ e2, cell_keep ?_ e3, cell_keep ?_ e4, cell_keep ?_ e5⟩ <;> (first | exact hbw | exact hbw.drew | exact hbw.alloc hbw.size _ | exact (hbw.alloc hbw.size _).drew | (go_grown; done)))
 refine tk (i := 0) (v := ?_) rfl (by kernel_rfl) (fun _ _ _ h => h) (Or.inl ⟨by first | kernel_rfl | rfl, ?_⟩) (by assumption) ?_
 rotate_left
 focus intro w hSw; (try dsimp only at hSw); go_simp; try with_reducible rfl
 try (unfold Act.put; dsimp only)
 refine tk (i := 1) (v := ?_) rfl (by kernel_rfl) (fun _ _ _ h => h) (Or.inl ⟨by first | kernel_rfl | rfl, ?_⟩) (by assumption) ?_
 rotate_left
 focus intro w hSw; (try dsimp only at hSw); go_simp; try with_reducible rfl
 try (unfold Act.put; dsimp only)
 refine tk (i := 2) (v := ?_) rfl (by kernel_rfl) (fun _ _ _ h => h) (Or.inl ⟨by first | kernel_rfl | rfl, ?_⟩) (by assumption) ?_
 rotate_left
 focus intro w hSw; (try dsimp only at hSw); go_simp; try with_reducible rfl
 try (unfold Act.put; dsimp only)
 refine tk (i := 4) (v := ?_) rfl (by kernel_rfl) (fun _ _ _ h => h) (Or.inl ⟨by first | kernel_rfl | rfl, ?_⟩) (by assumption) ?_
 rotate_left
 focus intro w hSw; (try dsimp only at hSw); go_simp; try with_reducible rfl
 try (unfold Act.put; dsimp only)
 refine tk (i := 5) (v := ?_) rfl (by kernel_rfl) (fun _ _ _ h => h) (Or.inl ⟨by first | kernel_rfl | rfl, ?_⟩) (by assumption) ?_
 rotate_left
 focus intro w hSw; (try dsimp only at hSw); go_simp; try with_reducible rfl
 try (unfold Act.put; dsimp only)
 refine tk (i := 8) (v := ?_) rfl (by kernel_rfl) (fun _ _ _ h => h) (Or.inl ⟨by first | kernel_rfl | rfl, ?_⟩) (by assumption) ?_
 rotate_left
 focus intro w hSw; (try dsimp only at hSw); go_simp; try with_reducible rfl
 try (unfold Act.put; dsimp only)
 refine tk (i := 9) (v := ?_) rfl (by kernel_rfl) (fun _ _ _ h => h) (Or.inl ⟨by first | kernel_rfl | rfl, ?_⟩) (by assumption) ?_
 rotate_left
 focus intro w hSw; (try dsimp only at hSw); go_simp; try with_reducible rfl
 try (unfold Act.put; dsimp only)
 refine wpAnyN_ready (rs := [3]) (by kernel_rfl) (by simp) ?_
 refine AllReadyN.cons rfl (fun K hK => ?_) ?_
 ·go_simp
  go_at_call 30
  refine (itoa_any x _ (HT5.out.below (show Below w5.heap.size w5 _ by first | exact Below.refl _ _ | exact (Below.refl _ _).drew | exact hbw | exact hbw.drew | exact hbw.alloc hbw.size _ | exact (hbw.alloc hbw.size _).drew | go_grown)) hx).mono ?_
  rintro e w6 ⟨rfl, hb6⟩
  have hbw : Below w5.heap.size w5 w6 := Below.trans (show Below w5.heap.size w5 _ by first | exact Below.refl _ _ | exact (Below.refl _ _).drew | exact hbw | exact hbw.drew | exact hbw.alloc hbw.size _ | exact (hbw.alloc hbw.size _).drew | go_grown) (hb6.mono (by first | exact Nat.le_refl _ | exact hbw.size | (simp; done) | (have := hbw.size; simp; omega)))
  dsimp only
  refine hK.out _ _ ?_ (fun hHeld => ?_)
  ·(try dsimp only)
   first
    | (refine ⟨?_, ?_, ?_, ?_⟩ <;> with_reducible assumption)
    | (refine ⟨cell_keep ?_ e2, cell_keep ?_ e3, cell_keep ?_ e4, cell_keep ?_ e5⟩ <;> (first | exact hbw | exact hbw.drew | exact hbw.alloc hbw.size _ | exact (hbw.alloc hbw.size _).drew | (go_grown; done)))
  clear hK K
  (try change wpAnyN _ _ _ _ _ _ _ _ (Act.put _ (some 50) _) _)
  try (unfold Act.put; dsimp only)
  refine wpAnyN_ready (rs := [6]) (by kernel_rfl) (by simp) ?_
  refine AllReadyN.cons rfl (fun K hK => ?_) ?_
  ·go_simp
   go_at_call 31
   refine (place_any t r _ (HT5.out.below (show Below w5.heap.size w5 _ by first | exact Below.refl _ _ | exact (Below.refl _ _).drew | exact hbw | exact hbw.drew | exact hbw.alloc hbw.size _ | exact (hbw.alloc hbw.size _).drew | go_grown)) ht hr).mono ?_
   rintro e w6 ⟨rfl, hb6⟩
   have hbw : Below w5.heap.size w5 w6 := Below.trans (show Below w5.heap.size w5 _ by first | exact Below.refl _ _ | exact (Below.refl _ _).drew | exact hbw | exact hbw.drew | exact hbw.alloc hbw.size _ | exact (hbw.alloc hbw.size _).drew | go_grown) (hb6.mono (by first | exact Nat.le_refl _ | exact hbw.size | (simp; done) | (have := hbw.size; simp; omega)))
   dsimp only
   refine hK.out _ _ ?_ (fun hHeld => ?_)
   ·(try dsimp only)
    first
     | (refine ⟨?_, ?_, ?_, ?_⟩ <;> with_reducible assumption)
     | (refine ⟨cell_keep ?_ e2, cell_keep ?_ e3, cell_keep ?_ e4, cell_keep ?_ e5⟩ <;> (first | exact hbw | exact hbw.drew | exact hbw.alloc hbw.size _ | exact (hbw.alloc hbw.size _).drew | (go_grown; done)))
   clear hK K
   (try change wpAnyN _ _ _ _ _ _ _ _ (Act.put _ (some 53) _) _)
   try (unfold Act.put; dsimp only)
   refine wpAnyN_ready (rs := [7]) (by kernel_rfl) (by simp) ?_
   refine AllReadyN.cons rfl (fun K hK => ?_) ?_
   ·go_simp
    go_at_call 32
    refine (modes_at _).mono ?_
    rintro e w6 ⟨rfl, hcs, hb6⟩
    have hmc := hcs m (by omega)
    have hbw : Below w5.heap.size w5 w6 := Below.trans (show Below w5.heap.size w5 _ by first | exact Below.refl _ _ | exact (Below.refl _ _).drew | exact hbw | exact hbw.drew | exact hbw.alloc hbw.size _ | exact (hbw.alloc hbw.size _).drew | go_grown) (hb6.mono (by first | exact Nat.le_refl _ | exact hbw.size | (simp; done) | (have := hbw.size; simp; omega)))
    dsimp only
    refine hK.out _ _ ?_ (fun hHeld => ?_)
    ·(try dsimp only)
     first
      | (refine ⟨?_, ?_, ?_, ?_⟩ <;> with_reducible assumption)
      | (refine ⟨cell_keep ?_ e2, cell_keep ?_ e3, cell_keep ?_ e4, cell_keep ?_ e5⟩ <;> (first | exact hbw | exact hbw.drew | exact hbw.alloc hbw.size _ | exact (hbw.alloc hbw.size _).drew | (go_grown; done)))
    clear hK K
    (try change wpAnyN _ _ _ _ _ _ _ _ (Act.put _ (some 54) _) _)
    try (unfold Act.put; dsimp only)
    refine tk (i := 10) (v := ?_) rfl (by kernel_rfl) (fun _ _ _ h => h) (Or.inl ⟨by first | kernel_rfl | rfl, ?_⟩) (by assumption) ?_
    rotate_left
    focus intro w hSw; (try dsimp only at hSw); go_simp; try with_reducible rfl
    try (unfold Act.put; dsimp only)
    refine wpAnyN_ready (rs := [11]) (by kernel_rfl) (by simp) ?_
    refine AllReadyN.cons rfl (fun K hK => ?_) ?_
    ·go_simp
     refine hK.out _ _ ?_ (fun hHeld => ?_)
     ·(try dsimp only)
      first
       | (refine ⟨?_, ?_, ?_, ?_⟩ <;> with_reducible assumption)
       | (refine ⟨cell_keep ?_ e2, cell_keep ?_ e3, cell_keep ?_ e4, cell_keep ?_ e5⟩ <;> (first | exact hbw | exact hbw.drew | exact hbw.alloc hbw.size _ | exact (hbw.alloc hbw.size _).drew | (go_grown; done)))
     clear hK K
     (try change wpAnyN _ _ _ _ _ _ _ _ (Act.put _ (some 58) _) _)
     try (unfold Act.put; dsimp only)
     refine wpAnyN_ready (rs := [12]) (by kernel_rfl) (by simp) ?_
     refine AllReadyN.cons rfl (fun K hK => ?_) ?_
     ·go_simp
      refine hK.out _ _ ?_ (fun hHeld => ?_)
      ·(try dsimp only)
       first
        | (refine ⟨?_, ?_, ?_, ?_⟩ <;> with_reducible assumption)
        | (refine ⟨cell_keep ?_ e2, cell_keep ?_ e3, cell_keep ?_ e4, cell_keep ?_ e5⟩ <;> (first | exact hbw | exact hbw.drew | exact hbw.alloc hbw.size _ | exact (hbw.alloc hbw.size _).drew | (go_grown; done)))
      clear hK K
      (try change wpAnyN _ _ _ _ _ _ _ _ (Act.put _ (some 59) _) _)
      try (unfold Act.put; dsimp only)
      refine wpAnyN_ready (rs := [13]) (by kernel_rfl) (by simp) ?_
      refine AllReadyN.cons rfl (fun K hK => ?_) ?_
      ·go_simp
       go_at_call 29
       refine (line_any (evName 3) _ 3 3 [decL x, textL t r, modeL m] _ (rds_block (g := _) (T := 9) (fr := (0, 0)) (by rw [heap_drew', heap_push, if_pos rfl]; rfl)) rfl (by omega) HJ.out).mono ?_
       rintro e w6 ⟨rfl, hb6⟩
       have hbw : Below w5.heap.size w5 w6 := Below.trans (show Below w5.heap.size w5 _ by first | exact Below.refl _ _ | exact (Below.refl _ _).drew | exact hbw | exact hbw.drew | exact hbw.alloc hbw.size _ | exact (hbw.alloc hbw.size _).drew | go_grown) (hb6.mono (by first | exact Nat.le_refl _ | exact hbw.size | (simp; done) | (have := hbw.size; simp; omega)))
       dsimp only
       refine hK.out _ _ ?_ (fun hHeld => ?_)
       ·(try dsimp only)
        first
         | (refine ⟨?_, ?_, ?_, ?_⟩ <;> with_reducible assumption)
         | (refine ⟨cell_keep ?_ e2, cell_keep ?_ e3, cell_keep ?_ e4, cell_keep ?_ e5⟩ <;> (first | exact hbw | exact hbw.drew | exact hbw.alloc hbw.size _ | exact (hbw.alloc hbw.size _).drew | (go_grown; done)))
       clear hK K
       (try change wpAnyN _ _ _ _ _ _ _ _ (Act.put _ (some 60) _) _)
       try (unfold Act.put; dsimp only)
       refine tk (i := 14) (v := ?_) rfl (by kernel_rfl) (fun _ _ _ h => h) (Or.inl ⟨by first | kernel_rfl | rfl, ?_⟩) (by assumption) ?_
       rotate_left
       focus intro w hSw; (try dsimp only at hSw); go_simp; try with_reducible rfl
       try (unfold Act.put; dsimp only)
       refine tk (i := 15) (v := ?_) rfl (by kernel_rfl) (fun _ _ _ h => h) (Or.inl ⟨by first | kernel_rfl | rfl, ?_⟩) (by assumption) ?_
       rotate_left
       focus intro w hSw; (try dsimp only at hSw); go_simp; try with_reducible rfl
       try (unfold Act.put; dsimp only)
       refine wpAnyN_done (by kernel_rfl) ?_ _
       go_wp2
       go_ret2
       rw [HG.out]
       exact ⟨rfl, (HB5.out.trans (hbw.mono (Nat.le_of_lt HGW.out)))⟩
      exact AllReadyN.nil
     exact AllReadyN.nil
    exact AllReadyN.nil
   exact AllReadyN.nil
  exact AllReadyN.nil
 exact AllReadyN.nil
set_option maxRecDepth 100000 in
set_option maxHeartbeats 4000000 in
theorem event_4 (x t r q : Nat) (hx : x ≤ 99999999) (ht : 1 ≤ t ∧ t ≤ 250) (hr : r ≤ 250) (hq : q ≤ 99999999) (w : World) (hT : TxW w) (hf : formB ⟨4, 0, (x : Int), (t : Int), (r : Int), 0, (q : Int)⟩ = true) :
 Calls Tryz.prog 16 #[.agg #[.int .i64 4, .int .i64 0, .int .i64 x, .int .i64 t, .int .i64 r, .int .i64 0, .int .i64 q]] w fun e w' => e = .returned (.tuple #[.string (bsA (jnL 32 [evName 4, decL x, textL t r, decL q])), .nilIface]) ∧ Below w.heap.size w w' := by
 have hbA : Below w.heap.size w (w.alloc (.cells #[.int .i64 4, .int .i64 0, .int .i64 x, .int .i64 t, .int .i64 r, .int .i64 0, .int .i64 q] 44)) := (Below.refl _ _).alloc (Nat.le_refl _) _
 have HF := Lib.hid (form_any ⟨4, 0, (x : Int), (t : Int), (r : Int), 0, (q : Int)⟩ (w.alloc (.cells #[.int .i64 4, .int .i64 0, .int .i64 x, .int .i64 t, .int .i64 r, .int .i64 0, .int .i64 q] 44)))
 rw [hf] at HF
 unfold evC at HF
 simp only at HF
 have HJ := Lib.hid (show (jnL 32 [evName 4, decL x, textL t r, decL q]).length ≤ 1000000 from by
  simp only [jnL, List.length_append, List.length_cons]
  have hnm : (evName 4).length ≤ 10 := by decide
  have s0 : (decL x).length ≤ 8 := dec_len8 hx
  have s1 : (textL t r).length ≤ 8 := text_len8 ht.2 hr
  have s2 : (decL q).length ≤ 8 := dec_len8 hq
  omega)
 have HTA := Lib.hid (hT.below hbA)
 have HBA := Lib.hid hbA
 clear hT hf hbA
 go_enter Tryz.func16, Tryz.ntmps16
 go_wp2_with fail
 refine HF.out.mono ?_
 rintro e w5 ⟨rfl, hb5⟩
 have HT5 := Lib.hid (HTA.out.below hb5)
 have HB5 := Lib.hid (HBA.out.trans (hb5.mono HBA.out.size))
 have HGW := Lib.hid (show w.heap.size < w5.heap.size from Nat.lt_of_lt_of_le (by simp) hb5.size)
 have e0 := cell_keep hb5 (b := w.heap.size) (o := 0) (u := .int .i64 4) (by simp)
 have e1 := cell_keep hb5 (b := w.heap.size) (o := 1) (u := .int .i64 0) (by simp)
 have e2 := cell_keep hb5 (b := w.heap.size) (o := 2) (u := .int .i64 x) (by simp)
 have e3 := cell_keep hb5 (b := w.heap.size) (o := 3) (u := .int .i64 t) (by simp)
 have e4 := cell_keep hb5 (b := w.heap.size) (o := 4) (u := .int .i64 r) (by simp)
 have e5 := cell_keep hb5 (b := w.heap.size) (o := 5) (u := .int .i64 0) (by simp)
 have e6 := cell_keep hb5 (b := w.heap.size) (o := 6) (u := .int .i64 q) (by simp)
 clear hb5 HF HTA HBA
 have hx' : ¬ 99999999 < (x : Int) := by omega
 go_wp2_with fail
 obtain ⟨g, hg⟩ : ∃ g, w.heap.size = g := ⟨_, rfl⟩
 rw [hg] at e0 e1 e2 e3 e4 e5 e6 HB5 HGW ⊢
 have HG := Lib.hid hg
 clear hg
 refine wp_region_N (S := (fun w' => w'.cell? ⟨g, 2, none⟩ = some (.int .i64 x) ∧ w'.cell? ⟨g, 3, none⟩ = some (.int .i64 t) ∧ w'.cell? ⟨g, 4, none⟩ = some (.int .i64 r) ∧ w'.cell? ⟨g, 6, none⟩ = some (.int .i64 q))) (fun i => true) (by kernel_rfl) ?_ (fun hHeld => ?_)
 ·(try dsimp only)
  first
   | (refine ⟨?_, ?_, ?_, ?_⟩ <;> with_reducible assumption)
   | (refine ⟨cell_keep ?_ e2, cell_keep ?_ e3, cell_keep ?_ e4, cell_keep ?_ e6⟩ <;> (first | exact hbw | exact hbw.drew | exact hbw.alloc hbw.size _ | exact (hbw.alloc hbw.size _).drew | (go_grown; done)))
 refine tk (i := 0) (v := ?_) rfl (by kernel_rfl) (fun _ _ _ h => h) (Or.inl ⟨by first | kernel_rfl | rfl, ?_⟩) (by assumption) ?_
 rotate_left
 focus intro w hSw; (try dsimp only at hSw); go_simp; try with_reducible rfl
 try (unfold Act.put; dsimp only)
 refine tk (i := 1) (v := ?_) rfl (by kernel_rfl) (fun _ _ _ h => h) (Or.inl ⟨by first | kernel_rfl | rfl, ?_⟩) (by assumption) ?_
 rotate_left
 focus intro w hSw; (try dsimp only at hSw); go_simp; try with_reducible rfl
 try (unfold Act.put; dsimp only)
 refine tk (i := 2) (v := ?_) rfl (by kernel_rfl) (fun _ _ _ h => h) (Or.inl ⟨by first | kernel_rfl | rfl, ?_⟩) (by assumption) ?_
 rotate_left
 focus intro w hSw; (try dsimp only at hSw); go_simp; try with_reducible rfl
 try (unfold Act.put; dsimp only)
 refine tk (i := 4) (v := ?_) rfl (by kernel_rfl) (fun _ _ _ h => h) (Or.inl ⟨by first | kernel_rfl | rfl, ?_⟩) (by assumption) ?_
 rotate_left
 focus intro w hSw; (try dsimp only at hSw); go_simp; try with_reducible rfl
 try (unfold Act.put; dsimp only)
 refine tk (i := 5) (v := ?_) rfl (by kernel_rfl) (fun _ _ _ h => h) (Or.inl ⟨by first | kernel_rfl | rfl, ?_⟩) (by assumption) ?_
 rotate_left
 focus intro w hSw; (try dsimp only at hSw); go_simp; try with_reducible rfl
 try (unfold Act.put; dsimp only)
 refine tk (i := 7) (v := ?_) rfl (by kernel_rfl) (fun _ _ _ h => h) (Or.inl ⟨by first | kernel_rfl | rfl, ?_⟩) (by assumption) ?_
 rotate_left
 focus intro w hSw; (try dsimp only at hSw); go_simp; try with_reducible rfl
 try (unfold Act.put; dsimp only)
 refine tk (i := 8) (v := ?_) rfl (by kernel_rfl) (fun _ _ _ h => h) (Or.inl ⟨by first | kernel_rfl | rfl, ?_⟩) (by assumption) ?_
 rotate_left
 focus intro w hSw; (try dsimp only at hSw); go_simp; try with_reducible rfl
 try (unfold Act.put; dsimp only)
 refine tk (i := 9) (v := ?_) rfl (by kernel_rfl) (fun _ _ _ h => h) (Or.inl ⟨by first | kernel_rfl | rfl, ?_⟩) (by assumption) ?_
 rotate_left
 focus intro w hSw; (try dsimp only at hSw); go_simp; try with_reducible rfl
 try (unfold Act.put; dsimp only)
 refine wpAnyN_ready (rs := [3]) (by kernel_rfl) (by simp) ?_
 refine AllReadyN.cons rfl (fun K hK => ?_) ?_
 ·go_simp
  go_at_call 30
  refine (itoa_any x _ (HT5.out.below (show Below w5.heap.size w5 _ by first | exact Below.refl _ _ | exact (Below.refl _ _).drew | exact hbw | exact hbw.drew | exact hbw.alloc hbw.size _ | exact (hbw.alloc hbw.size _).drew | go_grown)) hx).mono ?_
  rintro e w6 ⟨rfl, hb6⟩
  have hbw : Below w5.heap.size w5 w6 := Below.trans (show Below w5.heap.size w5 _ by first | exact Below.refl _ _ | exact (Below.refl _ _).drew | exact hbw | exact hbw.drew | exact hbw.alloc hbw.size _ | exact (hbw.alloc hbw.size _).drew | go_grown) (hb6.mono (by first | exact Nat.le_refl _ | exact hbw.size | (simp; done) | (have := hbw.size; simp; omega)))
  dsimp only
  refine hK.out _ _ ?_ (fun hHeld => ?_)
  ·(try dsimp only)
   first
    | (refine ⟨?_, ?_, ?_, ?_⟩ <;> with_reducible assumption)
    | (refine ⟨cell_keep ?_ e2, cell_keep ?_ e3, cell_keep ?_ e4, cell_keep ?_ e6⟩ <;> (first | exact hbw | exact hbw.drew | exact hbw.alloc hbw.size _ | exact (hbw.alloc hbw.size _).drew | (go_grown; done)))
  clear hK K
  (try change wpAnyN _ _ _ _ _ _ _ _ (Act.put _ (some 66) _) _)
  try (unfold Act.put; dsimp only)
  refine wpAnyN_ready (rs := [6]) (by kernel_rfl) (by simp) ?_
  refine AllReadyN.cons rfl (fun K hK => ?_) ?_
  ·go_simp
   go_at_call 31
   refine (place_any t r _ (HT5.out.below (show Below w5.heap.size w5 _ by first | exact Below.refl _ _ | exact (Below.refl _ _).drew | exact hbw | exact hbw.drew | exact hbw.alloc hbw.size _ | exact (hbw.alloc hbw.size _).drew | go_grown)) ht hr).mono ?_
   rintro e w6 ⟨rfl, hb6⟩
   have hbw : Below w5.heap.size w5 w6 := Below.trans (show Below w5.heap.size w5 _ by first | exact Below.refl _ _ | exact (Below.refl _ _).drew | exact hbw | exact hbw.drew | exact hbw.alloc hbw.size _ | exact (hbw.alloc hbw.size _).drew | go_grown) (hb6.mono (by first | exact Nat.le_refl _ | exact hbw.size | (simp; done) | (have := hbw.size; simp; omega)))
   dsimp only
   refine hK.out _ _ ?_ (fun hHeld => ?_)
   ·(try dsimp only)
    first
     | (refine ⟨?_, ?_, ?_, ?_⟩ <;> with_reducible assumption)
     | (refine ⟨cell_keep ?_ e2, cell_keep ?_ e3, cell_keep ?_ e4, cell_keep ?_ e6⟩ <;> (first | exact hbw | exact hbw.drew | exact hbw.alloc hbw.size _ | exact (hbw.alloc hbw.size _).drew | (go_grown; done)))
   clear hK K
   (try change wpAnyN _ _ _ _ _ _ _ _ (Act.put _ (some 69) _) _)
   try (unfold Act.put; dsimp only)
   refine wpAnyN_ready (rs := [10]) (by kernel_rfl) (by simp) ?_
   refine AllReadyN.cons rfl (fun K hK => ?_) ?_
   ·go_simp
    go_at_call 30
    refine (itoa_any q _ (HT5.out.below (show Below w5.heap.size w5 _ by first | exact Below.refl _ _ | exact (Below.refl _ _).drew | exact hbw | exact hbw.drew | exact hbw.alloc hbw.size _ | exact (hbw.alloc hbw.size _).drew | go_grown)) hq).mono ?_
    rintro e w6 ⟨rfl, hb6⟩
    have hbw : Below w5.heap.size w5 w6 := Below.trans (show Below w5.heap.size w5 _ by first | exact Below.refl _ _ | exact (Below.refl _ _).drew | exact hbw | exact hbw.drew | exact hbw.alloc hbw.size _ | exact (hbw.alloc hbw.size _).drew | go_grown) (hb6.mono (by first | exact Nat.le_refl _ | exact hbw.size | (simp; done) | (have := hbw.size; simp; omega)))
    dsimp only
    refine hK.out _ _ ?_ (fun hHeld => ?_)
    ·(try dsimp only)
     first
      | (refine ⟨?_, ?_, ?_, ?_⟩ <;> with_reducible assumption)
      | (refine ⟨cell_keep ?_ e2, cell_keep ?_ e3, cell_keep ?_ e4, cell_keep ?_ e6⟩ <;> (first | exact hbw | exact hbw.drew | exact hbw.alloc hbw.size _ | exact (hbw.alloc hbw.size _).drew | (go_grown; done)))
    clear hK K
    (try change wpAnyN _ _ _ _ _ _ _ _ (Act.put _ (some 73) _) _)
    try (unfold Act.put; dsimp only)
    refine wpAnyN_ready (rs := [11]) (by kernel_rfl) (by simp) ?_
    refine AllReadyN.cons rfl (fun K hK => ?_) ?_
    ·go_simp
     refine hK.out _ _ ?_ (fun hHeld => ?_)
     ·(try dsimp only)
      first
       | (refine ⟨?_, ?_, ?_, ?_⟩ <;> with_reducible assumption)
       | (refine ⟨cell_keep ?_ e2, cell_keep ?_ e3, cell_keep ?_ e4, cell_keep ?_ e6⟩ <;> (first | exact hbw | exact hbw.drew | exact hbw.alloc hbw.size _ | exact (hbw.alloc hbw.size _).drew | (go_grown; done)))
     clear hK K
     (try change wpAnyN _ _ _ _ _ _ _ _ (Act.put _ (some 74) _) _)
     try (unfold Act.put; dsimp only)
     refine wpAnyN_ready (rs := [12]) (by kernel_rfl) (by simp) ?_
     refine AllReadyN.cons rfl (fun K hK => ?_) ?_
     ·go_simp
      go_at_call 29
      refine (line_any (evName 4) _ 3 3 [decL x, textL t r, decL q] _ (rds_block (g := _) (T := 9) (fr := (0, 0)) (by rw [heap_drew', heap_push, if_pos rfl]; rfl)) rfl (by omega) HJ.out).mono ?_
      rintro e w6 ⟨rfl, hb6⟩
      have hbw : Below w5.heap.size w5 w6 := Below.trans (show Below w5.heap.size w5 _ by first | exact Below.refl _ _ | exact (Below.refl _ _).drew | exact hbw | exact hbw.drew | exact hbw.alloc hbw.size _ | exact (hbw.alloc hbw.size _).drew | go_grown) (hb6.mono (by first | exact Nat.le_refl _ | exact hbw.size | (simp; done) | (have := hbw.size; simp; omega)))
      dsimp only
      refine hK.out _ _ ?_ (fun hHeld => ?_)
      ·(try dsimp only)
       first
        | (refine ⟨?_, ?_, ?_, ?_⟩ <;> with_reducible assumption)
        | (refine ⟨cell_keep ?_ e2, cell_keep ?_ e3, cell_keep ?_ e4, cell_keep ?_ e6⟩ <;> (first | exact hbw | exact hbw.drew | exact hbw.alloc hbw.size _ | exact (hbw.alloc hbw.size _).drew | (go_grown; done)))
      clear hK K
      (try change wpAnyN _ _ _ _ _ _ _ _ (Act.put _ (some 75) _) _)
      try (unfold Act.put; dsimp only)
      refine tk (i := 13) (v := ?_) rfl (by kernel_rfl) (fun _ _ _ h => h) (Or.inl ⟨by first | kernel_rfl | rfl, ?_⟩) (by assumption) ?_
      rotate_left
      focus intro w hSw; (try dsimp only at hSw); go_simp; try with_reducible rfl
      try (unfold Act.put; dsimp only)
      refine tk (i := 14) (v := ?_) rfl (by kernel_rfl) (fun _ _ _ h => h) (Or.inl ⟨by first | kernel_rfl | rfl, ?_⟩) (by assumption) ?_
      rotate_left
      focus intro w hSw; (try dsimp only at hSw); go_simp; try with_reducible rfl
      try (unfold Act.put; dsimp only)
      refine wpAnyN_done (by kernel_rfl) ?_ _
      go_wp2
      go_ret2
      rw [HG.out]
      exact ⟨rfl, (HB5.out.trans (hbw.mono (Nat.le_of_lt HGW.out)))⟩
     exact AllReadyN.nil
    exact AllReadyN.nil
   exact AllReadyN.nil
  exact AllReadyN.nil
 exact AllReadyN.nil
set_option maxRecDepth 100000 in
set_option maxHeartbeats 4000000 in
theorem event_5 (x : Nat) (hx : x ≤ 99999999) (w : World) (hT : TxW w) (hf : formB ⟨5, 0, (x : Int), 0, 0, 0, 0⟩ = true) :
 Calls Tryz.prog 16 #[.agg #[.int .i64 5, .int .i64 0, .int .i64 x, .int .i64 0, .int .i64 0, .int .i64 0, .int .i64 0]] w fun e w' => e = .returned (.tuple #[.string (bsA (jnL 32 [evName 5, decL x])), .nilIface]) ∧ Below w.heap.size w w' := by
 have hbA : Below w.heap.size w (w.alloc (.cells #[.int .i64 5, .int .i64 0, .int .i64 x, .int .i64 0, .int .i64 0, .int .i64 0, .int .i64 0] 44)) := (Below.refl _ _).alloc (Nat.le_refl _) _
 have HF := Lib.hid (form_any ⟨5, 0, (x : Int), 0, 0, 0, 0⟩ (w.alloc (.cells #[.int .i64 5, .int .i64 0, .int .i64 x, .int .i64 0, .int .i64 0, .int .i64 0, .int .i64 0] 44)))
 rw [hf] at HF
 unfold evC at HF
 simp only at HF
 have HJ := Lib.hid (show (jnL 32 [evName 5, decL x]).length ≤ 1000000 from by
  simp only [jnL, List.length_append, List.length_cons]
  have hnm : (evName 5).length ≤ 10 := by decide
  have s0 : (decL x).length ≤ 8 := dec_len8 hx
  omega)
 have HTA := Lib.hid (hT.below hbA)
 have HBA := Lib.hid hbA
 clear hT hf hbA
 go_enter Tryz.func16, Tryz.ntmps16
 go_wp2_with fail
 refine HF.out.mono ?_
 rintro e w5 ⟨rfl, hb5⟩
 have HT5 := Lib.hid (HTA.out.below hb5)
 have HB5 := Lib.hid (HBA.out.trans (hb5.mono HBA.out.size))
 have HGW := Lib.hid (show w.heap.size < w5.heap.size from Nat.lt_of_lt_of_le (by simp) hb5.size)
 have e0 := cell_keep hb5 (b := w.heap.size) (o := 0) (u := .int .i64 5) (by simp)
 have e1 := cell_keep hb5 (b := w.heap.size) (o := 1) (u := .int .i64 0) (by simp)
 have e2 := cell_keep hb5 (b := w.heap.size) (o := 2) (u := .int .i64 x) (by simp)
 have e3 := cell_keep hb5 (b := w.heap.size) (o := 3) (u := .int .i64 0) (by simp)
 have e4 := cell_keep hb5 (b := w.heap.size) (o := 4) (u := .int .i64 0) (by simp)
 have e5 := cell_keep hb5 (b := w.heap.size) (o := 5) (u := .int .i64 0) (by simp)
 have e6 := cell_keep hb5 (b := w.heap.size) (o := 6) (u := .int .i64 0) (by simp)
 clear hb5 HF HTA HBA
 have hx' : ¬ 99999999 < (x : Int) := by omega
 go_wp2_with fail
 obtain ⟨g, hg⟩ : ∃ g, w.heap.size = g := ⟨_, rfl⟩
 rw [hg] at e0 e1 e2 e3 e4 e5 e6 HB5 HGW ⊢
 have HG := Lib.hid hg
 clear hg
 refine (itoa_any x _ HT5.out hx).mono ?_
 rintro e w6 ⟨rfl, hb6⟩
 have HB6 := Lib.hid (HB5.out.trans (hb6.mono (Nat.le_of_lt HGW.out)))
 have HG6 := Lib.hid (Nat.lt_of_lt_of_le HGW.out hb6.size)
 have HLN := Lib.hid (line_any (evName 5) _ 1 1 [decL x] (w6.alloc (.cells #[.string (bsA (decL x))] 9)) (rds_one w6 _ _) rfl (by omega) HJ.out)
 clear hb6
 go_wp2_with fail
 refine HLN.out.mono ?_
 rintro e w7 ⟨rfl, hb7⟩
 go_wp2
 go_ret2
 rw [HG.out]
 exact ⟨rfl, (HB6.out.alloc (Nat.le_of_lt HG6.out) _).trans (hb7.mono (by have := HG6.out; simp; omega))⟩
set_option maxRecDepth 100000 in
set_option maxHeartbeats 4000000 in
theorem event_6 (x : Nat) (hx : x ≤ 99999999) (w : World) (hT : TxW w) (hf : formB ⟨6, 0, (x : Int), 0, 0, 0, 0⟩ = true) :
 Calls Tryz.prog 16 #[.agg #[.int .i64 6, .int .i64 0, .int .i64 x, .int .i64 0, .int .i64 0, .int .i64 0, .int .i64 0]] w fun e w' => e = .returned (.tuple #[.string (bsA (jnL 32 [evName 6, decL x])), .nilIface]) ∧ Below w.heap.size w w' := by
 have hbA : Below w.heap.size w (w.alloc (.cells #[.int .i64 6, .int .i64 0, .int .i64 x, .int .i64 0, .int .i64 0, .int .i64 0, .int .i64 0] 44)) := (Below.refl _ _).alloc (Nat.le_refl _) _
 have HF := Lib.hid (form_any ⟨6, 0, (x : Int), 0, 0, 0, 0⟩ (w.alloc (.cells #[.int .i64 6, .int .i64 0, .int .i64 x, .int .i64 0, .int .i64 0, .int .i64 0, .int .i64 0] 44)))
 rw [hf] at HF
 unfold evC at HF
 simp only at HF
 have HJ := Lib.hid (show (jnL 32 [evName 6, decL x]).length ≤ 1000000 from by
  simp only [jnL, List.length_append, List.length_cons]
  have hnm : (evName 6).length ≤ 10 := by decide
  have s0 : (decL x).length ≤ 8 := dec_len8 hx
  omega)
 have HTA := Lib.hid (hT.below hbA)
 have HBA := Lib.hid hbA
 clear hT hf hbA
 go_enter Tryz.func16, Tryz.ntmps16
 go_wp2_with fail
 refine HF.out.mono ?_
 rintro e w5 ⟨rfl, hb5⟩
 have HT5 := Lib.hid (HTA.out.below hb5)
 have HB5 := Lib.hid (HBA.out.trans (hb5.mono HBA.out.size))
 have HGW := Lib.hid (show w.heap.size < w5.heap.size from Nat.lt_of_lt_of_le (by simp) hb5.size)
 have e0 := cell_keep hb5 (b := w.heap.size) (o := 0) (u := .int .i64 6) (by simp)
 have e1 := cell_keep hb5 (b := w.heap.size) (o := 1) (u := .int .i64 0) (by simp)
 have e2 := cell_keep hb5 (b := w.heap.size) (o := 2) (u := .int .i64 x) (by simp)
 have e3 := cell_keep hb5 (b := w.heap.size) (o := 3) (u := .int .i64 0) (by simp)
 have e4 := cell_keep hb5 (b := w.heap.size) (o := 4) (u := .int .i64 0) (by simp)
 have e5 := cell_keep hb5 (b := w.heap.size) (o := 5) (u := .int .i64 0) (by simp)
 have e6 := cell_keep hb5 (b := w.heap.size) (o := 6) (u := .int .i64 0) (by simp)
 clear hb5 HF HTA HBA
 have hx' : ¬ 99999999 < (x : Int) := by omega
 go_wp2_with fail
 obtain ⟨g, hg⟩ : ∃ g, w.heap.size = g := ⟨_, rfl⟩
 rw [hg] at e0 e1 e2 e3 e4 e5 e6 HB5 HGW ⊢
 have HG := Lib.hid hg
 clear hg
 refine (itoa_any x _ HT5.out hx).mono ?_
 rintro e w6 ⟨rfl, hb6⟩
 have HB6 := Lib.hid (HB5.out.trans (hb6.mono (Nat.le_of_lt HGW.out)))
 have HG6 := Lib.hid (Nat.lt_of_lt_of_le HGW.out hb6.size)
 have HLN := Lib.hid (line_any (evName 6) _ 1 1 [decL x] (w6.alloc (.cells #[.string (bsA (decL x))] 9)) (rds_one w6 _ _) rfl (by omega) HJ.out)
 clear hb6
 go_wp2_with fail
 refine HLN.out.mono ?_
 rintro e w7 ⟨rfl, hb7⟩
 go_wp2
 go_ret2
 rw [HG.out]
 exact ⟨rfl, (HB6.out.alloc (Nat.le_of_lt HG6.out) _).trans (hb7.mono (by have := HG6.out; simp; omega))⟩
set_option maxRecDepth 100000 in
set_option maxHeartbeats 4000000 in
theorem event_7 (x q : Nat) (hx : x ≤ 99999999) (hq : q ≤ 99999999) (w : World) (hT : TxW w) (hf : formB ⟨7, 0, (x : Int), 0, 0, 0, (q : Int)⟩ = true) :
 Calls Tryz.prog 16 #[.agg #[.int .i64 7, .int .i64 0, .int .i64 x, .int .i64 0, .int .i64 0, .int .i64 0, .int .i64 q]] w fun e w' => e = .returned (.tuple #[.string (bsA (jnL 32 [evName 7, decL x, decL q])), .nilIface]) ∧ Below w.heap.size w w' := by
 have hbA : Below w.heap.size w (w.alloc (.cells #[.int .i64 7, .int .i64 0, .int .i64 x, .int .i64 0, .int .i64 0, .int .i64 0, .int .i64 q] 44)) := (Below.refl _ _).alloc (Nat.le_refl _) _
 have HF := Lib.hid (form_any ⟨7, 0, (x : Int), 0, 0, 0, (q : Int)⟩ (w.alloc (.cells #[.int .i64 7, .int .i64 0, .int .i64 x, .int .i64 0, .int .i64 0, .int .i64 0, .int .i64 q] 44)))
 rw [hf] at HF
 unfold evC at HF
 simp only at HF
 have HJ := Lib.hid (show (jnL 32 [evName 7, decL x, decL q]).length ≤ 1000000 from by
  simp only [jnL, List.length_append, List.length_cons]
  have hnm : (evName 7).length ≤ 10 := by decide
  have s0 : (decL x).length ≤ 8 := dec_len8 hx
  have s1 : (decL q).length ≤ 8 := dec_len8 hq
  omega)
 have HTA := Lib.hid (hT.below hbA)
 have HBA := Lib.hid hbA
 clear hT hf hbA
 go_enter Tryz.func16, Tryz.ntmps16
 go_wp2_with fail
 refine HF.out.mono ?_
 rintro e w5 ⟨rfl, hb5⟩
 have HT5 := Lib.hid (HTA.out.below hb5)
 have HB5 := Lib.hid (HBA.out.trans (hb5.mono HBA.out.size))
 have HGW := Lib.hid (show w.heap.size < w5.heap.size from Nat.lt_of_lt_of_le (by simp) hb5.size)
 have e0 := cell_keep hb5 (b := w.heap.size) (o := 0) (u := .int .i64 7) (by simp)
 have e1 := cell_keep hb5 (b := w.heap.size) (o := 1) (u := .int .i64 0) (by simp)
 have e2 := cell_keep hb5 (b := w.heap.size) (o := 2) (u := .int .i64 x) (by simp)
 have e3 := cell_keep hb5 (b := w.heap.size) (o := 3) (u := .int .i64 0) (by simp)
 have e4 := cell_keep hb5 (b := w.heap.size) (o := 4) (u := .int .i64 0) (by simp)
 have e5 := cell_keep hb5 (b := w.heap.size) (o := 5) (u := .int .i64 0) (by simp)
 have e6 := cell_keep hb5 (b := w.heap.size) (o := 6) (u := .int .i64 q) (by simp)
 clear hb5 HF HTA HBA
 have hx' : ¬ 99999999 < (x : Int) := by omega
 go_wp2_with fail
 obtain ⟨g, hg⟩ : ∃ g, w.heap.size = g := ⟨_, rfl⟩
 rw [hg] at e0 e1 e2 e3 e4 e5 e6 HB5 HGW ⊢
 have HG := Lib.hid hg
 clear hg
 refine wp_region_N (S := (fun w' => w'.cell? ⟨g, 2, none⟩ = some (.int .i64 x) ∧ w'.cell? ⟨g, 6, none⟩ = some (.int .i64 q))) (fun i => true) (by kernel_rfl) ?_ (fun hHeld => ?_)
 ·(try dsimp only)
  first
   | (refine ⟨?_, ?_⟩ <;> with_reducible assumption)
   | (refine ⟨cell_keep ?_ e2, cell_keep ?_ e6⟩ <;> (first | exact hbw | exact hbw.drew | exact hbw.alloc hbw.size _ | exact (hbw.alloc hbw.size _).drew | (go_grown; done)))
 refine tk (i := 0) (v := ?_) rfl (by kernel_rfl) (fun _ _ _ h => h) (Or.inl ⟨by first | kernel_rfl | rfl, ?_⟩) (by assumption) ?_
 rotate_left
 focus intro w hSw; (try dsimp only at hSw); go_simp; try with_reducible rfl
 try (unfold Act.put; dsimp only)
 refine tk (i := 1) (v := ?_) rfl (by kernel_rfl) (fun _ _ _ h => h) (Or.inl ⟨by first | kernel_rfl | rfl, ?_⟩) (by assumption) ?_
 rotate_left
 focus intro w hSw; (try dsimp only at hSw); go_simp; try with_reducible rfl
 try (unfold Act.put; dsimp only)
 refine tk (i := 2) (v := ?_) rfl (by kernel_rfl) (fun _ _ _ h => h) (Or.inl ⟨by first | kernel_rfl | rfl, ?_⟩) (by assumption) ?_
 rotate_left
 focus intro w hSw; (try dsimp only at hSw); go_simp; try with_reducible rfl
 try (unfold Act.put; dsimp only)
 refine tk (i := 4) (v := ?_) rfl (by kernel_rfl) (fun _ _ _ h => h) (Or.inl ⟨by first | kernel_rfl | rfl, ?_⟩) (by assumption) ?_
 rotate_left
 focus intro w hSw; (try dsimp only at hSw); go_simp; try with_reducible rfl
 try (unfold Act.put; dsimp only)
 refine tk (i := 5) (v := ?_) rfl (by kernel_rfl) (fun _ _ _ h => h) (Or.inl ⟨by first | kernel_rfl | rfl, ?_⟩) (by assumption) ?_
 rotate_left
 focus intro w hSw; (try dsimp only at hSw); go_simp; try with_reducible rfl
 try (unfold Act.put; dsimp only)
 refine tk (i := 6) (v := ?_) rfl (by kernel_rfl) (fun _ _ _ h => h) (Or.inl ⟨by first | kernel_rfl | rfl, ?_⟩) (by assumption) ?_
 rotate_left
 focus intro w hSw; (try dsimp only at hSw); go_simp; try with_reducible rfl
 try (unfold Act.put; dsimp only)
 refine wpAnyN_ready (rs := [3]) (by kernel_rfl) (by simp) ?_
 refine AllReadyN.cons rfl (fun K hK => ?_) ?_
 ·go_simp
  go_at_call 30
  refine (itoa_any x _ (HT5.out.below (show Below w5.heap.size w5 _ by first | exact Below.refl _ _ | exact (Below.refl _ _).drew | exact hbw | exact hbw.drew | exact hbw.alloc hbw.size _ | exact (hbw.alloc hbw.size _).drew | go_grown)) hx).mono ?_
  rintro e w6 ⟨rfl, hb6⟩
  have hbw : Below w5.heap.size w5 w6 := Below.trans (show Below w5.heap.size w5 _ by first | exact Below.refl _ _ | exact (Below.refl _ _).drew | exact hbw | exact hbw.drew | exact hbw.alloc hbw.size _ | exact (hbw.alloc hbw.size _).drew | go_grown) (hb6.mono (by first | exact Nat.le_refl _ | exact hbw.size | (simp; done) | (have := hbw.size; simp; omega)))
  dsimp only
  refine hK.out _ _ ?_ (fun hHeld => ?_)
  ·(try dsimp only)
   first
    | (refine ⟨?_, ?_⟩ <;> with_reducible assumption)
    | (refine ⟨cell_keep ?_ e2, cell_keep ?_ e6⟩ <;> (first | exact hbw | exact hbw.drew | exact hbw.alloc hbw.size _ | exact (hbw.alloc hbw.size _).drew | (go_grown; done)))
  clear hK K
  (try change wpAnyN _ _ _ _ _ _ _ _ (Act.put _ (some 97) _) _)
  try (unfold Act.put; dsimp only)
  refine wpAnyN_ready (rs := [7]) (by kernel_rfl) (by simp) ?_
  refine AllReadyN.cons rfl (fun K hK => ?_) ?_
  ·go_simp
   go_at_call 30
   refine (itoa_any q _ (HT5.out.below (show Below w5.heap.size w5 _ by first | exact Below.refl _ _ | exact (Below.refl _ _).drew | exact hbw | exact hbw.drew | exact hbw.alloc hbw.size _ | exact (hbw.alloc hbw.size _).drew | go_grown)) hq).mono ?_
   rintro e w6 ⟨rfl, hb6⟩
   have hbw : Below w5.heap.size w5 w6 := Below.trans (show Below w5.heap.size w5 _ by first | exact Below.refl _ _ | exact (Below.refl _ _).drew | exact hbw | exact hbw.drew | exact hbw.alloc hbw.size _ | exact (hbw.alloc hbw.size _).drew | go_grown) (hb6.mono (by first | exact Nat.le_refl _ | exact hbw.size | (simp; done) | (have := hbw.size; simp; omega)))
   dsimp only
   refine hK.out _ _ ?_ (fun hHeld => ?_)
   ·(try dsimp only)
    first
     | (refine ⟨?_, ?_⟩ <;> with_reducible assumption)
     | (refine ⟨cell_keep ?_ e2, cell_keep ?_ e6⟩ <;> (first | exact hbw | exact hbw.drew | exact hbw.alloc hbw.size _ | exact (hbw.alloc hbw.size _).drew | (go_grown; done)))
   clear hK K
   (try change wpAnyN _ _ _ _ _ _ _ _ (Act.put _ (some 101) _) _)
   try (unfold Act.put; dsimp only)
   refine wpAnyN_ready (rs := [8]) (by kernel_rfl) (by simp) ?_
   refine AllReadyN.cons rfl (fun K hK => ?_) ?_
   ·go_simp
    refine hK.out _ _ ?_ (fun hHeld => ?_)
    ·(try dsimp only)
     first
      | (refine ⟨?_, ?_⟩ <;> with_reducible assumption)
      | (refine ⟨cell_keep ?_ e2, cell_keep ?_ e6⟩ <;> (first | exact hbw | exact hbw.drew | exact hbw.alloc hbw.size _ | exact (hbw.alloc hbw.size _).drew | (go_grown; done)))
    clear hK K
    (try change wpAnyN _ _ _ _ _ _ _ _ (Act.put _ (some 102) _) _)
    try (unfold Act.put; dsimp only)
    refine wpAnyN_ready (rs := [9]) (by kernel_rfl) (by simp) ?_
    refine AllReadyN.cons rfl (fun K hK => ?_) ?_
    ·go_simp
     go_at_call 29
     refine (line_any (evName 7) _ 2 2 [decL x, decL q] _ (rds_block (g := _) (T := 9) (fr := (0, 0)) (by rw [heap_drew', heap_push, if_pos rfl]; rfl)) rfl (by omega) HJ.out).mono ?_
     rintro e w6 ⟨rfl, hb6⟩
     have hbw : Below w5.heap.size w5 w6 := Below.trans (show Below w5.heap.size w5 _ by first | exact Below.refl _ _ | exact (Below.refl _ _).drew | exact hbw | exact hbw.drew | exact hbw.alloc hbw.size _ | exact (hbw.alloc hbw.size _).drew | go_grown) (hb6.mono (by first | exact Nat.le_refl _ | exact hbw.size | (simp; done) | (have := hbw.size; simp; omega)))
     dsimp only
     refine hK.out _ _ ?_ (fun hHeld => ?_)
     ·(try dsimp only)
      first
       | (refine ⟨?_, ?_⟩ <;> with_reducible assumption)
       | (refine ⟨cell_keep ?_ e2, cell_keep ?_ e6⟩ <;> (first | exact hbw | exact hbw.drew | exact hbw.alloc hbw.size _ | exact (hbw.alloc hbw.size _).drew | (go_grown; done)))
     clear hK K
     (try change wpAnyN _ _ _ _ _ _ _ _ (Act.put _ (some 103) _) _)
     try (unfold Act.put; dsimp only)
     refine tk (i := 10) (v := ?_) rfl (by kernel_rfl) (fun _ _ _ h => h) (Or.inl ⟨by first | kernel_rfl | rfl, ?_⟩) (by assumption) ?_
     rotate_left
     focus intro w hSw; (try dsimp only at hSw); go_simp; try with_reducible rfl
     try (unfold Act.put; dsimp only)
     refine tk (i := 11) (v := ?_) rfl (by kernel_rfl) (fun _ _ _ h => h) (Or.inl ⟨by first | kernel_rfl | rfl, ?_⟩) (by assumption) ?_
     rotate_left
     focus intro w hSw; (try dsimp only at hSw); go_simp; try with_reducible rfl
     try (unfold Act.put; dsimp only)
     refine wpAnyN_done (by kernel_rfl) ?_ _
     go_wp2
     go_ret2
     rw [HG.out]
     exact ⟨rfl, (HB5.out.trans (hbw.mono (Nat.le_of_lt HGW.out)))⟩
    exact AllReadyN.nil
   exact AllReadyN.nil
  exact AllReadyN.nil
 exact AllReadyN.nil
set_option maxRecDepth 100000 in
set_option maxHeartbeats 4000000 in
theorem event_8 (c : Nat) (hc : c ≤ 99999999) (w : World) (hT : TxW w) (hf : formB ⟨8, (c : Int), 0, 0, 0, 0, 0⟩ = true) :
 Calls Tryz.prog 16 #[.agg #[.int .i64 8, .int .i64 c, .int .i64 0, .int .i64 0, .int .i64 0, .int .i64 0, .int .i64 0]] w fun e w' => e = .returned (.tuple #[.string (bsA (jnL 32 [evName 8, decL c])), .nilIface]) ∧ Below w.heap.size w w' := by
 have hbA : Below w.heap.size w (w.alloc (.cells #[.int .i64 8, .int .i64 c, .int .i64 0, .int .i64 0, .int .i64 0, .int .i64 0, .int .i64 0] 44)) := (Below.refl _ _).alloc (Nat.le_refl _) _
 have HF := Lib.hid (form_any ⟨8, (c : Int), 0, 0, 0, 0, 0⟩ (w.alloc (.cells #[.int .i64 8, .int .i64 c, .int .i64 0, .int .i64 0, .int .i64 0, .int .i64 0, .int .i64 0] 44)))
 rw [hf] at HF
 unfold evC at HF
 simp only at HF
 have HJ := Lib.hid (show (jnL 32 [evName 8, decL c]).length ≤ 1000000 from by
  simp only [jnL, List.length_append, List.length_cons]
  have hnm : (evName 8).length ≤ 10 := by decide
  have s0 : (decL c).length ≤ 8 := dec_len8 hc
  omega)
 have HTA := Lib.hid (hT.below hbA)
 have HBA := Lib.hid hbA
 clear hT hf hbA
 go_enter Tryz.func16, Tryz.ntmps16
 go_wp2_with fail
 refine HF.out.mono ?_
 rintro e w5 ⟨rfl, hb5⟩
 have HT5 := Lib.hid (HTA.out.below hb5)
 have HB5 := Lib.hid (HBA.out.trans (hb5.mono HBA.out.size))
 have HGW := Lib.hid (show w.heap.size < w5.heap.size from Nat.lt_of_lt_of_le (by simp) hb5.size)
 have e0 := cell_keep hb5 (b := w.heap.size) (o := 0) (u := .int .i64 8) (by simp)
 have e1 := cell_keep hb5 (b := w.heap.size) (o := 1) (u := .int .i64 c) (by simp)
 have e2 := cell_keep hb5 (b := w.heap.size) (o := 2) (u := .int .i64 0) (by simp)
 have e3 := cell_keep hb5 (b := w.heap.size) (o := 3) (u := .int .i64 0) (by simp)
 have e4 := cell_keep hb5 (b := w.heap.size) (o := 4) (u := .int .i64 0) (by simp)
 have e5 := cell_keep hb5 (b := w.heap.size) (o := 5) (u := .int .i64 0) (by simp)
 have e6 := cell_keep hb5 (b := w.heap.size) (o := 6) (u := .int .i64 0) (by simp)
 clear hb5 HF HTA HBA
 go_wp2_with fail
 obtain ⟨g, hg⟩ : ∃ g, w.heap.size = g := ⟨_, rfl⟩
 rw [hg] at e0 e1 e2 e3 e4 e5 e6 HB5 HGW ⊢
 have HG := Lib.hid hg
 clear hg
 refine (itoa_any c _ HT5.out hc).mono ?_
 rintro e w6 ⟨rfl, hb6⟩
 have HB6 := Lib.hid (HB5.out.trans (hb6.mono (Nat.le_of_lt HGW.out)))
 have HG6 := Lib.hid (Nat.lt_of_lt_of_le HGW.out hb6.size)
 have HLN := Lib.hid (line_any (evName 8) _ 1 1 [decL c] (w6.alloc (.cells #[.string (bsA (decL c))] 9)) (rds_one w6 _ _) rfl (by omega) HJ.out)
 clear hb6
 go_wp2_with fail
 refine HLN.out.mono ?_
 rintro e w7 ⟨rfl, hb7⟩
 go_wp2
 go_ret2
 rw [HG.out]
 exact ⟨rfl, (HB6.out.alloc (Nat.le_of_lt HG6.out) _).trans (hb7.mono (by have := HG6.out; simp; omega))⟩
end Go.Proofs.YtjpjlfjaapfnkaaGreatDoor

/-
  The model: beginnings, forms. No conditions beyond those that each theorem states.
-/
import Derived.Test.YtjpjlfjaapfnkaaGreatDoorDMG
import Derived.LoopTactic
import Derived.IntWalk
import Derived.BigQuiet
set_option linter.unusedVariables false
set_option linter.unusedSimpArgs false
namespace Go.Proofs.YtjpjlfjaapfnkaaGreatDoor.C20
open Go.ChangeShapes Go.WideShapes Go.ChangeAt Go.RowKit Go.Maps
set_option maxHeartbeats 1000000 in
theorem began_bad1 (g n cp c : Nat) (A : Option Addr) (x t r m q : Int) (w : World) (h0 : w.cell? ⟨g, 0, none⟩ = some (.slice A n cp)) (hc : c ≤ 8) (hn : n ≤ 100000) (hx : ¬ x = (n : Int) + 1) :
 Calls Tryz.prog 131 #[.pointer (some ⟨g, 0, none⟩), .agg #[.int .i64 1, .int .i64 c, .int .i64 x, .int .i64 t, .int .i64 r, .int .i64 m, .int .i64 q]] w fun e w' => e = .returned (.iface 70 (.int .i64 11)) ∧ Below w.heap.size w w' := by
 have lg : g < w.heap.size := lt_of_cell h0
 have ng : ¬ g = w.heap.size := by omega
 have ng' : ¬ w.heap.size = g := by omega
 have k2 : (c : Int) < 9 := by omega
 have k3 : ¬ (c : Int) < 0 := by omega
 have hwr : IntKind.i64.wrap ((n : Int) + 1) = (n : Int) + 1 := IntWalk.i64_in _ (by omega)
 obtain ⟨y, hy⟩ : ∃ y : Int, (n : Int) + 1 = y := ⟨_, rfl⟩
 have hwr' : IntKind.i64.wrap ((n : Int) + 1) = y := hwr.trans hy
 have hxb : (x != y) = true := by simp; omega
 clear hwr hy hx
 go_enter Tryz.func131, Tryz.ntmps131
 go_wp2
 go_quiet (fail)
 go_wp2
 go_ret
 exact ⟨rfl, by first | exact below_drewN ((Below.refl _ _).alloc (Nat.le_refl _) _) _ | go_grown⟩
set_option maxHeartbeats 1000000 in
theorem began_bad2 (g n cp c : Nat) (A : Option Addr) (t r m q : Int) (w : World) (h0 : w.cell? ⟨g, 0, none⟩ = some (.slice A n cp)) (hd : w.cell? ⟨g, 1 + c, none⟩ = some (.bool true)) (hc : c ≤ 8) (hn : n ≤ 100000) :
 Calls Tryz.prog 131 #[.pointer (some ⟨g, 0, none⟩), .agg #[.int .i64 1, .int .i64 c, .int .i64 ((n : Int) + 1), .int .i64 t, .int .i64 r, .int .i64 m, .int .i64 q]] w fun e w' => e = .returned (.iface 70 (.int .i64 11)) ∧ Below w.heap.size w w' := by
 have lg : g < w.heap.size := lt_of_cell h0
 have ng : ¬ g = w.heap.size := by omega
 have ng' : ¬ w.heap.size = g := by omega
 have k2 : (c : Int) < 9 := by omega
 have k3 : ¬ (c : Int) < 0 := by omega
 have hwr : IntKind.i64.wrap ((n : Int) + 1) = (n : Int) + 1 := IntWalk.i64_in _ (by omega)
 go_enter Tryz.func131, Tryz.ntmps131
 go_wp2
 go_quiet (fail)
 go_wp2
 go_ret
 exact ⟨rfl, by first | exact below_drewN ((Below.refl _ _).alloc (Nat.le_refl _) _) _ | go_grown⟩
set_option maxHeartbeats 1000000 in
theorem began_bad3 (g n cp c : Nat) (A : Option Addr) (a : Addr) (t r m q : Int) (w : World) (h0 : w.cell? ⟨g, 0, none⟩ = some (.slice A n cp)) (hd : w.cell? ⟨g, 1 + c, none⟩ = some (.bool false)) (hp : w.cell? ⟨g, 10 + c, none⟩ = some (.pointer (some a))) (hc : c ≤ 8) (hn : n ≤ 100000) :
 Calls Tryz.prog 131 #[.pointer (some ⟨g, 0, none⟩), .agg #[.int .i64 1, .int .i64 c, .int .i64 ((n : Int) + 1), .int .i64 t, .int .i64 r, .int .i64 m, .int .i64 q]] w fun e w' => e = .returned (.iface 70 (.int .i64 11)) ∧ Below w.heap.size w w' := by
 have lg : g < w.heap.size := lt_of_cell h0
 have ng : ¬ g = w.heap.size := by omega
 have ng' : ¬ w.heap.size = g := by omega
 have k2 : (c : Int) < 9 := by omega
 have k3 : ¬ (c : Int) < 0 := by omega
 have hwr : IntKind.i64.wrap ((n : Int) + 1) = (n : Int) + 1 := IntWalk.i64_in _ (by omega)
 go_enter Tryz.func131, Tryz.ntmps131
 go_wp2
 go_quiet (fail)
 go_wp2
 go_ret
 exact ⟨rfl, by first | exact below_drewN ((Below.refl _ _).alloc (Nat.le_refl _) _) _ | go_grown⟩
theorem one_info : (Tryz.prog.info? 186).map (fun i => (i.zero, i.size, i.bytes)) = some (some (.pointer none), 1, 8) := by kernel_rfl
set_option maxRecDepth 100000 in
set_option maxHeartbeats 4000000 in
theorem began_good (B g c : Nat) (tag : Nat → Nat) (s : St) (bs : List Nat) (va vs : Value) (cs : Array Value) (t r m q : Int) (w : World) (h : StAt w B tag g s bs va vs cs) (hB : B ≤ w.heap.size) (hc : c ≤ 8) (hn : bs.length ≤ 100000) (hd : s.dead c = false) (hp : s.now c = false) :
 Calls Tryz.prog 131 #[.pointer (some ⟨g, 0, none⟩), .agg #[.int .i64 1, .int .i64 c, .int .i64 ((bs.length : Int) + 1), .int .i64 t, .int .i64 r, .int .i64 m, .int .i64 q]] w fun e w' => StepOf w w' B g 0 ⟨s.all ++ [newTx c], s.dead, off s.now c true, s.serial⟩ e := by
 have HS := Lib.hid h
 have HG := Lib.hid h.1
 obtain ⟨lg, h0, _, h1, h2⟩ := h.at
 obtain ⟨_, _, cp, _, ⟨A, hva⟩, hcp, _, _⟩ := own1_cell h.2.2.2.2.2.2.2.2.1
 have hown := h.2.2.2.2.2.2.2.2.1
 have hvg : va.ownBlock ≠ some g := fun e => by
  have e1 := h.2.2.2.2.2.2.2.2.2.1 g e
  have e2 := h.2.2.2.2.2.2.2.1
  omega
 have hfr : ∀ j, w.frozen? ⟨g, j, none⟩ = false := fun j => heap_free h.1
 replace h1 := h1 c (by omega)
 obtain ⟨p, h2, h3⟩ := h2 c (by omega)
 rw [hd] at h1
 rw [hp] at h3
 have hpn : p = none := by simpa using h3
 obtain ⟨p', hp1, hp2⟩ := HS.out.2.2.2.2.2.1 c (by omega)
 subst hpn
 have hcn : cs[10 + c]? = some (.pointer none) := by
  rw [hp] at hp2
  have : p' = none := by simpa using hp2
  rw [hp1, this]
 have HP := Lib.hid hcn
 clear hcn hp1 hp2
 clear h hd hp h3
 obtain ⟨n, hnn⟩ : ∃ n, bs.length = n := ⟨_, rfl⟩
 rw [hnn] at hn hown ⊢ hva
 have HN := Lib.hid hnn
 have HVA := Lib.hid hva
 have hc0 := HS.out.2.2.1
 rw [hva] at h0 hown hvg hc0
 have HC0 := Lib.hid hc0
 clear hc0
 clear hnn hva
 obtain ⟨i0, hi0, hz0, hz1, hz2⟩ := info_parts one_info
 have HO := Lib.hid hown
 have HV := Lib.hid hvg
 have HFR := Lib.hid hfr
 clear hown hvg hfr
 have ng : ¬ g = w.heap.size := by omega
 have ng' : ¬ w.heap.size = g := by omega
 have k2 : (c : Int) < 9 := by omega
 have k3 : ¬ (c : Int) < 0 := by omega
 have hwr : IntKind.i64.wrap ((n : Int) + 1) = (n : Int) + 1 := IntWalk.i64_in _ (by omega)
 go_enter Tryz.func131, Tryz.ntmps131
 go_wp2
 go_quiet (fail)
 generalize hw3 : World.drewN (w.alloc (.cells #[.int .i64 1, .int .i64 c, .int .i64 ((n : Int) + 1), .int .i64 t, .int .i64 r, .int .i64 m, .int .i64 q] 44)) _ = w3
 have hb3 : Below w.heap.size w w3 := by rw [← hw3]; exact below_drewN ((Below.refl _ _).alloc (Nat.le_refl _) _) _
 have hs3 : w3.heap.size = w.heap.size + 1 := by rw [← hw3]; simp [World.drewN]
 have b1 : w3.cell? ⟨w.heap.size, 1, none⟩ = some (.int .i64 c) := by rw [← hw3]; simp
 replace h0 := (hb3.cell (p := ⟨g, 0, none⟩) lg).trans h0
 replace h2 := (hb3.cell (p := ⟨g, 10 + c, none⟩) lg).trans h2
 have f0 : w3.frozen? ⟨g, 0, none⟩ = false := (hb3.frozen (p := ⟨g, 0, none⟩) lg).trans (HFR.out 0)
 have HS3 := Lib.hid hs3
 have e1 : w.heap.size < w3.heap.size := by omega
 have e2 : g < w3.heap.size := by omega
 have ne1 : ¬ g = w3.heap.size := by omega
 have ne2 : ¬ w.heap.size = w3.heap.size := by omega
 have HB3 := Lib.hid hb3
 clear hw3 hs3 hb3 h1 hwr
 have hmk : ∀ W : World, (Instr.makeMap 220 none).run Tryz.prog W = .ok (.map (some W.heap.size)) (W.alloc (.map #[] 0)) := fun W => rfl
 have hvw : Value.ownBlock (.slice A n cp) ≠ some w.heap.size := fun e => by have := (HO.out.lt _ e).2; omega
 go_wp2_with (at_builtin; refine wpList_append_lies _ rfl _ _ 184 rfl B 186 i0 _ 1 8 Tryz.underlying184 hi0 hz0 hz1 hz2 rfl (by decide) (.slice A n cp) n (ptrV bs) rfl (own_below HO.out (HB3.out.trans (by first | exact Below.refl _ _ | go_grown))) _ 1 1 [.pointer (some ⟨w3.heap.size + 1, 0, none⟩)] rfl rfl (World.news_of_block (cs := #[.pointer (some ⟨w3.heap.size + 1, 0, none⟩)]) (t := 186) (fr := (0, 0)) (by (repeat rw [heap_push]); simp)) (by simp [Value.oneCell']) (by decide) (by unfold maxLen; omega) (by omega) (by simp; omega) _ rfl ?_; intro gg cap w7 hown7 hgrow hat hlt7; have h7 := append_keep hgrow (HB3.out.trans (by go_grown)) HG.out HV.out; have k7 := heap_cell h7 (j := 0) (u := .slice A n cp) HC0.out; have kf7 := heap_free h7 (j := 0); have x7 := append_cell hgrow (by go_grown) b1 hvw; have H7 := Lib.hid h7; have X7 := Lib.hid x7; have HW := Lib.hid hgrow; have HO7 := Lib.hid hown7; clear h7 hgrow hown7 x7)
 have lg7 : g < w7.heap.size := lt_of_block H7.out
 obtain ⟨w1, hw1⟩ : ∃ W, ((w3.alloc (.map #[] 0)).alloc (.cells #[.int .i64 1, .int .i64 c, .int .i64 (-1), .bool false, .bool false, .int .i64 0, .int .i64 0, .int .i64 0, .map (some w3.heap.size), .slice none 0 0] 223)).alloc (.cells #[.pointer (some ⟨w3.heap.size + 1, 0, none⟩)] 186) = W := ⟨_, rfl⟩
 have hst : ∃ tag' cs', StAt (w7.setCell ⟨g, 0, none⟩ (.slice (some ⟨gg, 0, none⟩) (n + 1) cap)) B tag' g ⟨s.all ++ [newTx c], s.dead, s.now, s.serial⟩ (bs ++ [w3.heap.size + 1]) (.slice (some ⟨gg, 0, none⟩) (n + 1) cap) vs cs' := by
  have hsz1 : w1.heap.size = w3.heap.size + 1 + 1 + 1 := by rw [← hw1]; simp
  have hgr := HW.out
  rw [hw1] at hgr
  have hat' := hat
  simp at hat'
  have hs3 := HS3.out
  have hb31 : Below w3.heap.size w3 w1 := by rw [← hw1]; go_grown
  refine HS.out.more (x := newTx c) (mb := w3.heap.size) (w1 := w1) hB (HB3.out.trans (hb31.mono (by omega))) ⟨by omega, by omega, by omega, by omega, by omega⟩ ?_ ?_ rfl (by rw [HVA.out]; exact hgr) (by rw [HN.out]; exact HO7.out) ?_
  ·rw [← hw1, heap_push, if_neg (by simp), heap_push, if_pos (by simp)]; rfl
  ·rw [← hw1]; exact ((World.ownsMap_made w3 _ _ _).alloc _).alloc _
  ·intro k hk
   rw [HVA.out]
   simp [Value.ownBlock] at hk
   subst hk
   rcases hat with h | h
   ·exact .inl h
   ·right; rw [h, hw1]; exact Nat.le_refl _
 have HST := Lib.hid hst
 clear hst hw1 hat
 have lg7 : g < w7.heap.size := lt_of_block H7.out
 obtain ⟨v8, hv8⟩ : ∃ v, Value.slice (some ⟨gg, 0, none⟩) (n + 1) cap = v := ⟨_, rfl⟩
 have hb8 : (w7.setCell ⟨g, 0, none⟩ v8).heap[g]? = some (.cells (cs.setIfInBounds 0 v8) 189 (0, 0)) := heap_put w7 g 0 cs _ _ H7.out
 rw [hv8] at HST ⊢
 have x8 : (w7.setCell ⟨g, 0, none⟩ v8).cell? ⟨w.heap.size, 1, none⟩ = some (.int .i64 c) := (World.cell?_setCell_far w7 ⟨g, 0, none⟩ ⟨w.heap.size, 1, none⟩ v8 ng).trans X7.out
 have p8 := heap_cell hb8 (j := 10 + c) (u := .pointer none) (by rw [Array.getElem?_setIfInBounds_ne (by omega)]; exact HP.out)
 have q8 := heap_free hb8 (j := 10 + c)
 have hbW : Below B w (w7.setCell ⟨g, 0, none⟩ v8) := Below.setCell (Below.grown ((HB3.out.trans (show Below w.heap.size w3 _ by refine Below.mono ?_ (show w.heap.size ≤ w3.heap.size by omega); go_grown)).mono hB) HW.out (by simp; omega) (fun k hk => (HO.out.lt k hk).1)) (by have := HS.out.2.2.2.2.2.2.1; exact this) _
 generalize w7.setCell ⟨g, 0, none⟩ v8 = w8 at *
 have HBW := Lib.hid hbW
 have HBG := Lib.hid HS.out.2.2.2.2.2.2.1
 have HB8 := Lib.hid hb8
 clear hv8 hb8 hbW HW HO7 H7 X7
 go_region
 go_wp2
 go_ret
 obtain ⟨tag', cs', hF⟩ := HST.out
 refine step_ok (tag := tag') ?_ rfl ⟨_, _, _, _, ((hF.setNow c (by omega) (some ⟨w3.heap.size + 1, 0, none⟩)).same (fun k hk => rfl))⟩
 exact (HBW.out.setCell HBG.out _).trans ⟨rfl, rfl, rfl, Nat.le_refl _, fun _ _ => rfl⟩
end Go.Proofs.YtjpjlfjaapfnkaaGreatDoor.C20
namespace Go.Proofs.YtjpjlfjaapfnkaaGreatDoor.C20
open Go.ChangeShapes Go.WideShapes Go.ChangeAt Go.RowKit
theorem in_any (n a b : Int) (w : World) :
 Calls Tryz.prog 143 #[.int .i64 n, .int .i64 a, .int .i64 b] w fun e w' => e = .returned (.bool (decide (a ≤ n) && decide (n ≤ b))) ∧ w = w' := by
 by_cases h1 : a ≤ n
 ·by_cases h2 : n ≤ b
  ·go_enter Tryz.func143, Tryz.ntmps143
   go_wp2
   go_ret
   exact ⟨retb (by simp [h1, h2]), rfl⟩
  ·go_enter Tryz.func143, Tryz.ntmps143
   go_wp2
   go_ret
   exact ⟨retb (by simp [h2]), rfl⟩
 ·go_enter Tryz.func143, Tryz.ntmps143
  go_wp2
  go_ret
  exact ⟨retb (by simp; omega), rfl⟩
theorem in_yes (n a b : Int) (w : World) (h : a ≤ n ∧ n ≤ b) : Calls Tryz.prog 143 #[.int .i64 n, .int .i64 a, .int .i64 b] w fun e w' => e = .returned (.bool true) ∧ w = w' := by
 have := in_any n a b w
 rwa [decide_eq_true h.1, decide_eq_true h.2] at this
theorem in_no (n a b : Int) (w : World) (h : ¬ (a ≤ n ∧ n ≤ b)) : Calls Tryz.prog 143 #[.int .i64 n, .int .i64 a, .int .i64 b] w fun e w' => e = .returned (.bool false) ∧ w = w' := by
 have := in_any n a b w
 rwa [show (decide (a ≤ n) && decide (n ≤ b)) = false by simp; omega] at this
set_option maxHeartbeats 1000000 in
theorem resok_any (t r : Int) (w : World) :
 Calls Tryz.prog 67 #[.agg #[.int .i64 t, .int .i64 r]] w fun e w' => e = .returned (.bool (resB t r)) ∧ Below w.heap.size w w' := by
 have hbA : Below w.heap.size w (w.alloc (.cells #[.int .i64 t, .int .i64 r] 23)) := (Below.refl _ _).alloc (Nat.le_refl _) _
 unfold resB
 go_enter Tryz.func67, Tryz.ntmps67
 by_cases h1 : 1 ≤ t
 ·by_cases h2 : t ≤ 250
  ·by_cases h3 : 0 ≤ r
   ·by_cases h4 : r ≤ 250
    ·go_wp2
     go_ret
     exact ⟨retb (by simp [h1, h2, h3, h4]), hbA⟩
    ·go_wp2
     go_ret
     exact ⟨retb (by simp; omega), hbA⟩
   ·go_wp2
    go_ret
    exact ⟨retb (by simp; omega), hbA⟩
  ·go_wp2
   go_ret
   exact ⟨retb (by simp; omega), hbA⟩
 ·go_wp2
  go_ret
  exact ⟨retb (by simp; omega), hbA⟩
set_option maxHeartbeats 1000000 in
theorem form5 (c x t r m q : Int) (w : World) :
 Calls Tryz.prog 130 #[.agg #[.int .i64 5, .int .i64 c, .int .i64 x, .int .i64 t, .int .i64 r, .int .i64 m, .int .i64 q]] w fun e w' => e = .returned (.bool (formB ⟨5, c, x, t, r, m, q⟩)) ∧ Below w.heap.size w w' := by
 by_cases h1 : 1 ≤ x
 ·go_enter Tryz.func130, Tryz.ntmps130
  go_wp2
  all_goals (go_ret; refine ⟨retb ?_, by go_grown⟩; simp [formB, *]; try omega)
 ·go_enter Tryz.func130, Tryz.ntmps130
  go_wp2
  all_goals (go_ret; refine ⟨retb ?_, by go_grown⟩; simp [formB, *]; try omega)
set_option maxHeartbeats 1000000 in
theorem form6 (c x t r m q : Int) (w : World) :
 Calls Tryz.prog 130 #[.agg #[.int .i64 6, .int .i64 c, .int .i64 x, .int .i64 t, .int .i64 r, .int .i64 m, .int .i64 q]] w fun e w' => e = .returned (.bool (formB ⟨6, c, x, t, r, m, q⟩)) ∧ Below w.heap.size w w' := by
 by_cases h1 : 1 ≤ x
 ·go_enter Tryz.func130, Tryz.ntmps130
  go_wp2
  all_goals (go_ret; refine ⟨retb ?_, by go_grown⟩; simp [formB, *]; try omega)
 ·go_enter Tryz.func130, Tryz.ntmps130
  go_wp2
  all_goals (go_ret; refine ⟨retb ?_, by go_grown⟩; simp [formB, *]; try omega)
set_option maxHeartbeats 1000000 in
theorem form1 (c x t r m q : Int) (w : World) :
 Calls Tryz.prog 130 #[.agg #[.int .i64 1, .int .i64 c, .int .i64 x, .int .i64 t, .int .i64 r, .int .i64 m, .int .i64 q]] w fun e w' => e = .returned (.bool (formB ⟨1, c, x, t, r, m, q⟩)) ∧ Below w.heap.size w w' := by
 by_cases h2 : 1 ≤ c ∧ c ≤ 8
 ·obtain ⟨h3, h4⟩ := h2
  by_cases h1 : 1 ≤ x
  ·go_enter Tryz.func130, Tryz.ntmps130
   go_wp2_with (go_at_call 143; refine (in_yes _ _ _ _ (by omega)).mono ?_; rintro e w' ⟨rfl, rfl⟩)
   all_goals (go_ret; refine ⟨retb ?_, by go_grown⟩; simp [formB, *]; try omega)
  ·go_enter Tryz.func130, Tryz.ntmps130
   go_wp2_with (go_at_call 143; refine (in_yes _ _ _ _ (by omega)).mono ?_; rintro e w' ⟨rfl, rfl⟩)
   all_goals (go_ret; refine ⟨retb ?_, by go_grown⟩; simp [formB, *]; try omega)
 ·have H2 := Lib.hid h2
  clear h2
  go_enter Tryz.func130, Tryz.ntmps130
  go_wp2_with (go_at_call 143; refine (in_no _ _ _ _ H2.out).mono ?_; rintro e w' ⟨rfl, rfl⟩)
  all_goals (go_ret; refine ⟨retb ?_, by go_grown⟩; have := H2.out; simp [formB, *]; try omega)
set_option maxHeartbeats 1000000 in
theorem form8 (c x t r m q : Int) (w : World) :
 Calls Tryz.prog 130 #[.agg #[.int .i64 8, .int .i64 c, .int .i64 x, .int .i64 t, .int .i64 r, .int .i64 m, .int .i64 q]] w fun e w' => e = .returned (.bool (formB ⟨8, c, x, t, r, m, q⟩)) ∧ Below w.heap.size w w' := by
 by_cases h2 : 1 ≤ c ∧ c ≤ 8
 ·obtain ⟨h3, h4⟩ := h2
  go_enter Tryz.func130, Tryz.ntmps130
  go_wp2_with (go_at_call 143; refine (in_yes _ _ _ _ (by omega)).mono ?_; rintro e w' ⟨rfl, rfl⟩)
  all_goals (go_ret; refine ⟨retb ?_, by go_grown⟩; simp [formB, *]; try omega)
 ·have H2 := Lib.hid h2
  clear h2
  go_enter Tryz.func130, Tryz.ntmps130
  go_wp2_with (go_at_call 143; refine (in_no _ _ _ _ H2.out).mono ?_; rintro e w' ⟨rfl, rfl⟩)
  all_goals (go_ret; refine ⟨retb ?_, by go_grown⟩; have := H2.out; simp [formB, *]; try omega)
set_option maxHeartbeats 1000000 in
theorem form7 (c x t r m q : Int) (w : World) :
 Calls Tryz.prog 130 #[.agg #[.int .i64 7, .int .i64 c, .int .i64 x, .int .i64 t, .int .i64 r, .int .i64 m, .int .i64 q]] w fun e w' => e = .returned (.bool (formB ⟨7, c, x, t, r, m, q⟩)) ∧ Below w.heap.size w w' := by
 by_cases h2 : 1 ≤ q ∧ q ≤ 5
 ·obtain ⟨h3, h4⟩ := h2
  by_cases h1 : 1 ≤ x
  ·go_enter Tryz.func130, Tryz.ntmps130
   go_wp2_with (go_at_call 143; refine (in_yes _ _ _ _ (by omega)).mono ?_; rintro e w' ⟨rfl, rfl⟩)
   all_goals (go_ret; refine ⟨retb ?_, by go_grown⟩; simp [formB, *]; try omega)
  ·go_enter Tryz.func130, Tryz.ntmps130
   go_wp2_with (go_at_call 143; refine (in_yes _ _ _ _ (by omega)).mono ?_; rintro e w' ⟨rfl, rfl⟩)
   all_goals (go_ret; refine ⟨retb ?_, by go_grown⟩; simp [formB, *]; try omega)
 ·have H2 := Lib.hid h2
  clear h2
  go_enter Tryz.func130, Tryz.ntmps130
  go_wp2_with (go_at_call 143; refine (in_no _ _ _ _ H2.out).mono ?_; rintro e w' ⟨rfl, rfl⟩)
  all_goals (go_ret; refine ⟨retb ?_, by go_grown⟩; have := H2.out; simp [formB, *]; try omega)
end Go.Proofs.YtjpjlfjaapfnkaaGreatDoor.C20
namespace Go.Proofs.YtjpjlfjaapfnkaaGreatDoor.C20
open Go.ChangeShapes Go.WideShapes Go.ChangeAt Go.RowKit
set_option maxHeartbeats 1000000 in
theorem resok_at (t r : Int) (w : World) (b : Bool) (h : resB t r = b) :
 Calls Tryz.prog 67 #[.agg #[.int .i64 t, .int .i64 r]] w fun e w' => e = .returned (.bool b) ∧ w.alloc (.cells #[.int .i64 t, .int .i64 r] 23) = w' := by
 subst h
 unfold resB
 go_enter Tryz.func67, Tryz.ntmps67
 by_cases h1 : 1 ≤ t
 ·by_cases h2 : t ≤ 250
  ·by_cases h3 : 0 ≤ r
   ·by_cases h4 : r ≤ 250
    ·go_wp2
     go_ret
     exact ⟨retb (by simp [h1, h2, h3, h4]), rfl⟩
    ·go_wp2
     go_ret
     exact ⟨retb (by simp; omega), rfl⟩
   ·go_wp2
    go_ret
    exact ⟨retb (by simp; omega), rfl⟩
  ·go_wp2
   go_ret
   exact ⟨retb (by simp; omega), rfl⟩
 ·go_wp2
  go_ret
  exact ⟨retb (by simp; omega), rfl⟩
set_option maxHeartbeats 2000000 in
theorem form2 (c x t r m q : Int) (w : World) :
 Calls Tryz.prog 130 #[.agg #[.int .i64 2, .int .i64 c, .int .i64 x, .int .i64 t, .int .i64 r, .int .i64 m, .int .i64 q]] w fun e w' => e = .returned (.bool (formB ⟨2, c, x, t, r, m, q⟩)) ∧ Below w.heap.size w w' := by
 by_cases h2 : 1 ≤ m ∧ m ≤ 4
 ·obtain ⟨h3, h4⟩ := h2
  cases hr : resB t r with
  | true =>
   have HR := Lib.hid hr
   clear hr
   by_cases h1 : 1 ≤ x
   ·skip
    go_enter Tryz.func130, Tryz.ntmps130
    go_wp2_with (first | (go_at_call 143; refine (in_yes _ _ _ _ (by omega)).mono ?_; rintro e w' ⟨rfl, rfl⟩) | (go_at_call 67; refine (resok_at _ _ _ _ HR.out).mono ?_; rintro e w' ⟨rfl, rfl⟩))
    all_goals (go_ret; refine ⟨retb ?_, by go_grown⟩; have := HR.out; simp [formB, *]; try omega)
   ·skip
    go_enter Tryz.func130, Tryz.ntmps130
    go_wp2_with (first | (go_at_call 143; refine (in_yes _ _ _ _ (by omega)).mono ?_; rintro e w' ⟨rfl, rfl⟩) | (go_at_call 67; refine (resok_at _ _ _ _ HR.out).mono ?_; rintro e w' ⟨rfl, rfl⟩))
    all_goals (go_ret; refine ⟨retb ?_, by go_grown⟩; have := HR.out; simp [formB, *]; try omega)
  | false =>
   have HR := Lib.hid hr
   clear hr
   go_enter Tryz.func130, Tryz.ntmps130
   go_wp2_with (first | (go_at_call 143; refine (in_yes _ _ _ _ (by omega)).mono ?_; rintro e w' ⟨rfl, rfl⟩) | (go_at_call 67; refine (resok_at _ _ _ _ HR.out).mono ?_; rintro e w' ⟨rfl, rfl⟩))
   all_goals (go_ret; refine ⟨retb ?_, by go_grown⟩; have := HR.out; simp [formB, *]; try omega)
 ·have H2 := Lib.hid h2
  clear h2
  go_enter Tryz.func130, Tryz.ntmps130
  go_wp2_with (go_at_call 143; refine (in_no _ _ _ _ H2.out).mono ?_; rintro e w' ⟨rfl, rfl⟩)
  all_goals (go_ret; refine ⟨retb ?_, by go_grown⟩; have := H2.out; simp [formB, *]; try omega)
set_option maxHeartbeats 2000000 in
theorem form3 (c x t r m q : Int) (w : World) :
 Calls Tryz.prog 130 #[.agg #[.int .i64 3, .int .i64 c, .int .i64 x, .int .i64 t, .int .i64 r, .int .i64 m, .int .i64 q]] w fun e w' => e = .returned (.bool (formB ⟨3, c, x, t, r, m, q⟩)) ∧ Below w.heap.size w w' := by
 by_cases h2 : 1 ≤ m ∧ m ≤ 4
 ·obtain ⟨h3, h4⟩ := h2
  cases hr : resB t r with
  | true =>
   have HR := Lib.hid hr
   clear hr
   by_cases h1 : 1 ≤ x
   ·skip
    go_enter Tryz.func130, Tryz.ntmps130
    go_wp2_with (first | (go_at_call 143; refine (in_yes _ _ _ _ (by omega)).mono ?_; rintro e w' ⟨rfl, rfl⟩) | (go_at_call 67; refine (resok_at _ _ _ _ HR.out).mono ?_; rintro e w' ⟨rfl, rfl⟩))
    all_goals (go_ret; refine ⟨retb ?_, by go_grown⟩; have := HR.out; simp [formB, *]; try omega)
   ·skip
    go_enter Tryz.func130, Tryz.ntmps130
    go_wp2_with (first | (go_at_call 143; refine (in_yes _ _ _ _ (by omega)).mono ?_; rintro e w' ⟨rfl, rfl⟩) | (go_at_call 67; refine (resok_at _ _ _ _ HR.out).mono ?_; rintro e w' ⟨rfl, rfl⟩))
    all_goals (go_ret; refine ⟨retb ?_, by go_grown⟩; have := HR.out; simp [formB, *]; try omega)
  | false =>
   have HR := Lib.hid hr
   clear hr
   go_enter Tryz.func130, Tryz.ntmps130
   go_wp2_with (first | (go_at_call 143; refine (in_yes _ _ _ _ (by omega)).mono ?_; rintro e w' ⟨rfl, rfl⟩) | (go_at_call 67; refine (resok_at _ _ _ _ HR.out).mono ?_; rintro e w' ⟨rfl, rfl⟩))
   all_goals (go_ret; refine ⟨retb ?_, by go_grown⟩; have := HR.out; simp [formB, *]; try omega)
 ·have H2 := Lib.hid h2
  clear h2
  go_enter Tryz.func130, Tryz.ntmps130
  go_wp2_with (go_at_call 143; refine (in_no _ _ _ _ H2.out).mono ?_; rintro e w' ⟨rfl, rfl⟩)
  all_goals (go_ret; refine ⟨retb ?_, by go_grown⟩; have := H2.out; simp [formB, *]; try omega)
set_option maxHeartbeats 2000000 in
theorem form4 (c x t r m q : Int) (w : World) :
 Calls Tryz.prog 130 #[.agg #[.int .i64 4, .int .i64 c, .int .i64 x, .int .i64 t, .int .i64 r, .int .i64 m, .int .i64 q]] w fun e w' => e = .returned (.bool (formB ⟨4, c, x, t, r, m, q⟩)) ∧ Below w.heap.size w w' := by
 by_cases h2 : 1 ≤ q ∧ q ≤ 15
 ·obtain ⟨h3, h4⟩ := h2
  cases hr : resB t r with
  | true =>
   have HR := Lib.hid hr
   clear hr
   by_cases h1 : 1 ≤ x
   ·skip
    go_enter Tryz.func130, Tryz.ntmps130
    go_wp2_with (first | (go_at_call 143; refine (in_yes _ _ _ _ (by omega)).mono ?_; rintro e w' ⟨rfl, rfl⟩) | (go_at_call 67; refine (resok_at _ _ _ _ HR.out).mono ?_; rintro e w' ⟨rfl, rfl⟩))
    all_goals (go_ret; refine ⟨retb ?_, by go_grown⟩; have := HR.out; simp [formB, *]; try omega)
   ·skip
    go_enter Tryz.func130, Tryz.ntmps130
    go_wp2_with (first | (go_at_call 143; refine (in_yes _ _ _ _ (by omega)).mono ?_; rintro e w' ⟨rfl, rfl⟩) | (go_at_call 67; refine (resok_at _ _ _ _ HR.out).mono ?_; rintro e w' ⟨rfl, rfl⟩))
    all_goals (go_ret; refine ⟨retb ?_, by go_grown⟩; have := HR.out; simp [formB, *]; try omega)
  | false =>
   have HR := Lib.hid hr
   clear hr
   go_enter Tryz.func130, Tryz.ntmps130
   go_wp2_with (first | (go_at_call 143; refine (in_yes _ _ _ _ (by omega)).mono ?_; rintro e w' ⟨rfl, rfl⟩) | (go_at_call 67; refine (resok_at _ _ _ _ HR.out).mono ?_; rintro e w' ⟨rfl, rfl⟩))
   all_goals (go_ret; refine ⟨retb ?_, by go_grown⟩; have := HR.out; simp [formB, *]; try omega)
 ·have H2 := Lib.hid h2
  clear h2
  go_enter Tryz.func130, Tryz.ntmps130
  go_wp2_with (go_at_call 143; refine (in_no _ _ _ _ H2.out).mono ?_; rintro e w' ⟨rfl, rfl⟩)
  all_goals (go_ret; refine ⟨retb ?_, by go_grown⟩; have := H2.out; simp [formB, *]; try omega)
set_option maxHeartbeats 2000000 in
theorem form0 (k c x t r m q : Int) (w : World) (h1 : k ≠ 1) (h2 : k ≠ 2) (h3 : k ≠ 3) (h4 : k ≠ 4) (h5 : k ≠ 5) (h6 : k ≠ 6) (h7 : k ≠ 7) (h8 : k ≠ 8) :
 Calls Tryz.prog 130 #[.agg #[.int .i64 k, .int .i64 c, .int .i64 x, .int .i64 t, .int .i64 r, .int .i64 m, .int .i64 q]] w fun e w' => e = .returned (.bool (formB ⟨k, c, x, t, r, m, q⟩)) ∧ Below w.heap.size w w' := by
 have e1 : (k == 1) = false := by simpa using h1
 have e2 : (k == 2) = false := by simpa using h2
 have e3 : (k == 3) = false := by simpa using h3
 have e4 : (k == 4) = false := by simpa using h4
 have e5 : (k == 5) = false := by simpa using h5
 have e6 : (k == 6) = false := by simpa using h6
 have e7 : (k == 7) = false := by simpa using h7
 have e8 : (k == 8) = false := by simpa using h8
 have hf : formB ⟨k, c, x, t, r, m, q⟩ = false := by unfold formB; simp [h1, h2, h3, h4, h5, h6, h7, h8]
 have HF := Lib.hid hf
 clear hf
 go_enter Tryz.func130, Tryz.ntmps130
 go_wp2
 go_ret
 exact ⟨by rw [HF.out]; rfl, by go_grown⟩
theorem form_any (e : Ev) (w : World) :
 Calls Tryz.prog 130 #[.agg #[.int .i64 e.kind, .int .i64 e.client, .int .i64 e.tx, .int .i64 e.table, .int .i64 e.row, .int .i64 e.mode, .int .i64 e.code]] w fun r w' => r = .returned (.bool (formB e)) ∧ Below w.heap.size w w' := by
 obtain ⟨k, c, x, t, r, m, q⟩ := e
 show Calls Tryz.prog 130 #[.agg #[.int .i64 k, .int .i64 c, .int .i64 x, .int .i64 t, .int .i64 r, .int .i64 m, .int .i64 q]] w _
 by_cases h1 : k = 1
 ·subst h1; exact form1 c x t r m q w
 by_cases h2 : k = 2
 ·subst h2; exact form2 c x t r m q w
 by_cases h3 : k = 3
 ·subst h3; exact form3 c x t r m q w
 by_cases h4 : k = 4
 ·subst h4; exact form4 c x t r m q w
 by_cases h5 : k = 5
 ·subst h5; exact form5 c x t r m q w
 by_cases h6 : k = 6
 ·subst h6; exact form6 c x t r m q w
 by_cases h7 : k = 7
 ·subst h7; exact form7 c x t r m q w
 by_cases h8 : k = 8
 ·subst h8; exact form8 c x t r m q w
 exact form0 k c x t r m q w h1 h2 h3 h4 h5 h6 h7 h8
theorem form_is (e : Ev) (w : World) (b : Bool) (h : formB e = b) :
 Calls Tryz.prog 130 #[.agg #[.int .i64 e.kind, .int .i64 e.client, .int .i64 e.tx, .int .i64 e.table, .int .i64 e.row, .int .i64 e.mode, .int .i64 e.code]] w fun r w' => r = .returned (.bool b) ∧ Below w.heap.size w w' := by
 subst h; exact form_any e w
end Go.Proofs.YtjpjlfjaapfnkaaGreatDoor.C20

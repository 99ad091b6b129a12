/-
  The model: next, play, Check; an event's form. No conditions beyond those that each theorem states.
-/
import Derived.Test.YtjpjlfjaapfnkaaGreatDoorDMI
import Derived.Test.YtjpjlfjaapfnkaaGreatDoorDMJ
import Derived.Test.YtjpjlfjaapfnkaaGreatDoorDMG
import Derived.Test.YtjpjlfjaapfnkaaGreatDoorDMB
import Derived.Test.YtjpjlfjaapfnkaaGreatDoorDMD
set_option linter.unusedVariables false
set_option linter.unusedSimpArgs false
namespace Go.Proofs.YtjpjlfjaapfnkaaGreatDoor.C20
open Go.ChangeShapes Go.WideShapes Go.ChangeAt Go.RowKit Go.Maps
theorem step_st {w : World} {B : Nat} {tag : Nat → Nat} {g : Nat} {s : St} {bs : List Nat} {va vs : Value} {cs : Array Value} (h : StAt w B tag g s bs va vs cs) (hB : B ≤ w.heap.size) {i b : Nat} {x : Tx} (hi : bs[i]? = some b) (hx : s.all[i]? = some x) {n : Nat} (hok : StOk s n) (hn : n ≤ 1000) (h3 : Ser3 s) (hs : ¬ x.state = 3) (e : Ev) (hf : formB e = true) (k1 : ¬ e.kind = 1) (k8 : ¬ e.kind = 8) (ht : e.tx = (i : Int) + 1) (p : Int) :
 Calls Tryz.prog 133 #[.pointer (some ⟨g, 0, none⟩), .pointer (some ⟨b, 0, none⟩), .agg #[.int .i64 e.kind, .int .i64 e.client, .int .i64 e.tx, .int .i64 e.table, .int .i64 e.row, .int .i64 e.mode, .int .i64 e.code], .int .i64 p] w fun r w' =>
  StepOf w w' B g (stepE s e p) (stepS s e p) r := by
 have ho := hok.tx i x hx
 have hc := form_code hf
 have h23 := form_23 hf
 obtain ⟨k, ec, ex, et, er, em, eq⟩ := e
 simp only at k1 k8 ht hc
 obtain rfl | rfl | rfl | rfl | rfl | rfl : k = 2 ∨ k = 3 ∨ k = 4 ∨ k = 5 ∨ k = 6 ∨ k = 7 := by omega
 ·exact step2 h hB hi hx ec ex et er em eq p ht
 ·exact step3 h hB hi hx ec ex et er em eq p ht ho hn (h23 (.inr rfl)).2.2.2
 ·exact step4 h hB hi hx ec ex et er em eq p ht
 ·exact step5 h hB hi hx ec ex et er em eq p ht
 ·exact step6 h hB hi hx ec ex et er em eq p ht hok hn h3 hs
 ·exact step7 h hB hi hx ec ex et er em eq p ht ho
theorem began_st {w : World} {B : Nat} {tag : Nat → Nat} {g : Nat} {s : St} {bs : List Nat} {va vs : Value} {cs : Array Value} (h : StAt w B tag g s bs va vs cs) (hB : B ≤ w.heap.size) {n : Nat} (hok : StOk s n) (hn : n ≤ 1000) (e : Ev) (hk : e.kind = 1) (hc : 1 ≤ e.client ∧ e.client ≤ 8) :
 Calls Tryz.prog 131 #[.pointer (some ⟨g, 0, none⟩), .agg #[.int .i64 e.kind, .int .i64 e.client, .int .i64 e.tx, .int .i64 e.table, .int .i64 e.row, .int .i64 e.mode, .int .i64 e.code]] w fun r w' =>
  StepOf w w' B g (if ¬ e.tx = s.all.length + 1 ∨ s.dead e.client.toNat = true ∨ s.now e.client.toNat = true then 11 else 0) ⟨s.all ++ [newTx e.client], s.dead, off s.now e.client true, s.serial⟩ r := by
 obtain ⟨k, ec, ex, et, er, em, eq⟩ := e
 simp only at hk hc
 subst hk
 obtain ⟨c, rfl⟩ := Int.eq_ofNat_of_zero_le (show 0 ≤ ec by omega)
 have hl := hok.len
 have hbl := h.lens
 obtain ⟨_, _, cp, _, ⟨A, hva⟩, hcp, _, _⟩ := own1_cell h.2.2.2.2.2.2.2.2.1
 have c0 := heap_cell h.1 (j := 0) h.2.2.1
 rw [hva] at c0
 have hd := heap_cell h.1 (j := 1 + c) (h.2.2.2.2.1 c (by omega))
 obtain ⟨p, hp1, hp2⟩ := h.2.2.2.2.2.1 c (by omega)
 have hp := heap_cell h.1 (j := 10 + c) hp1
 simp only [Int.toNat_natCast]
 by_cases hx : ex = (bs.length : Int) + 1
 ·subst hx
  by_cases hdd : s.dead c = true
  ·rw [hdd] at hd
   refine (began_bad2 g bs.length cp c A et er em eq w c0 hd (by omega) (by omega)).mono ?_
   rintro r w' ⟨rfl, hb⟩
   exact step_bad hb hB (if_pos (.inr (.inl hdd))) (by decide)
  ·have hdf : s.dead c = false := by simpa using hdd
   by_cases hnn : s.now c = true
   ·rw [hdf] at hd
    obtain ⟨a, rfl⟩ : ∃ a, p = some a := by
     rw [hnn] at hp2
     exact Option.isSome_iff_exists.1 hp2
    refine (began_bad3 g bs.length cp c A a et er em eq w c0 hd hp (by omega) (by omega)).mono ?_
    rintro r w' ⟨rfl, hb⟩
    exact step_bad hb hB (if_pos (.inr (.inr hnn))) (by decide)
   ·have hnf : s.now c = false := by simpa using hnn
    have h0 : (if ¬ (bs.length : Int) + 1 = (s.all.length : Int) + 1 ∨ s.dead c = true ∨ s.now c = true then (11 : Int) else 0) = 0 := if_neg (by
     rintro (h | h | h)
     ·exact h (by rw [hbl])
     ·exact hdd h
     ·exact hnn h)
    rw [h0]
    exact began_good B g c tag s bs va vs cs et er em eq w h hB (by omega) (by omega) hdf hnf
 ·refine (began_bad1 g bs.length cp c A ex et er em eq w c0 (by omega) (by omega) hx).mono ?_
  rintro r w' ⟨rfl, hb⟩
  exact step_bad hb hB (by rw [if_pos (.inl (by rw [← hbl]; exact hx))]) (by decide)
theorem find_no {w : World} {B : Nat} {tag : Nat → Nat} {g : Nat} {s : St} {bs : List Nat} {va vs : Value} {cs : Array Value} (h : StAt w B tag g s bs va vs cs) (t : Int) (ht : (s.all.length : Int) < t) :
 Calls Tryz.prog 132 #[.pointer (some ⟨g, 0, none⟩), .int .i64 t] w fun e w' => e = .returned (.tuple #[.pointer none, .bool false]) ∧ Below w.heap.size w w' := by
 obtain ⟨_, _, cp, _, ⟨A, hva⟩, hcp, _, _⟩ := own1_cell h.2.2.2.2.2.2.2.2.1
 have c0 := heap_cell h.1 (j := 0) h.2.2.1
 rw [hva] at c0
 exact find_out g A bs.length cp t w c0 (by rw [h.lens]; exact ht)
theorem find_yes {w : World} {B : Nat} {tag : Nat → Nat} {g : Nat} {s : St} {bs : List Nat} {va vs : Value} {cs : Array Value} (h : StAt w B tag g s bs va vs cs) {i b : Nat} {x : Tx} (hi : bs[i]? = some b) (hx : s.all[i]? = some x) (hn : bs.length ≤ 100000) :
 Calls Tryz.prog 132 #[.pointer (some ⟨g, 0, none⟩), .int .i64 ((i : Int) + 1)] w fun e w' => e = .returned (.tuple #[.pointer (some ⟨b, 0, none⟩), .bool (decide (x.state ≠ 3))]) ∧ Below w.heap.size w w' := by
 have hil := (List.getElem?_eq_some_iff.1 hi).1
 obtain ⟨_, ga, cp, hva, _, hcp, _, hcell⟩ := own1_cell h.2.2.2.2.2.2.2.2.1
 have c0 := heap_cell h.1 (j := 0) h.2.2.1
 rw [(hva (by omega)).1] at c0
 obtain ⟨mb, v, h1, _⟩ := h.one hi hx
 exact find_in g ga bs.length cp i b x.state w c0 hn hil (hcell i _ (by unfold ptrV; rw [List.getElem?_map, hi]; rfl)) (heap_cell h1 rfl)
theorem next_bad {w : World} {B : Nat} {tag : Nat → Nat} {g : Nat} {s : St} {bs : List Nat} {va vs : Value} {cs : Array Value} (h : StAt w B tag g s bs va vs cs) (hB : B ≤ w.heap.size) (e : Ev) (hf : formB e = false) (p : Int) :
 Calls Tryz.prog 115 #[.pointer (some ⟨g, 0, none⟩), .agg #[.int .i64 e.kind, .int .i64 e.client, .int .i64 e.tx, .int .i64 e.table, .int .i64 e.row, .int .i64 e.mode, .int .i64 e.code], .int .i64 p] w fun r w' => StepOf w w' B g (nextE s e p) (nextS s e p) r := by
 obtain ⟨k, ec, ex, et, er, em, eq⟩ := e
 obtain ⟨w1, hw1⟩ : ∃ W, w.alloc (.cells #[.int .i64 k, .int .i64 ec, .int .i64 ex, .int .i64 et, .int .i64 er, .int .i64 em, .int .i64 eq] 44) = W := ⟨_, rfl⟩
 have hb1 : Below w.heap.size w w1 := by rw [← hw1]; exact (Below.refl _ _).alloc (Nat.le_refl _) _
 have he1 : w1.heap[w.heap.size]? = some (.cells #[.int .i64 k, .int .i64 ec, .int .i64 ex, .int .i64 et, .int .i64 er, .int .i64 em, .int .i64 eq] 44 (0, 0)) := by rw [← hw1, heap_push, if_pos rfl]
 have hs1 : w1.heap.size = w.heap.size + 1 := by rw [← hw1]; simp
 have HFM := Lib.hid (form_is ⟨k, ec, ex, et, er, em, eq⟩ w1 false hf)
 have HH := Lib.hid h
 have HW1 := Lib.hid hw1
 have HB1 := Lib.hid hb1
 have HE1 := Lib.hid he1
 have HF := Lib.hid hf
 have HZ1 := Lib.hid hs1
 clear h hw1 hb1 he1 hf hs1
 simp only
 go_enter Tryz.func115, Tryz.ntmps115
 go_wp2_with fail
 rw [HW1.out]
 refine HFM.out.mono ?_
 rintro r w2 ⟨rfl, hb2⟩
 have hB2 := HB1.out.trans (hb2.mono (by have := HZ1.out; omega))
 have he2 := (hb2.block w.heap.size (by have := HZ1.out; omega)).trans HE1.out
 have E0 := heap_cell he2 (j := 0) rfl
 have E1 := heap_cell he2 (j := 1) rfl
 have E2 := heap_cell he2 (j := 2) rfl
 have E3 := heap_cell he2 (j := 3) rfl
 have E4 := heap_cell he2 (j := 4) rfl
 have E5 := heap_cell he2 (j := 5) rfl
 have E6 := heap_cell he2 (j := 6) rfl
 have hs2 := hB2.size
 have HS2 := Lib.hid (HH.out.below hB2)
 have HB2 := Lib.hid hB2
 have HE2 := Lib.hid he2
 have hBw2 : B ≤ w2.heap.size := by omega
 clear hb2 hB2 he2 hs2
 go_wp2
 go_ret
 exact step_bad HB2.out hB (by unfold nextE; rw [if_pos HF.out]) (by decide)
set_option maxHeartbeats 2000000 in
theorem next_1 {w : World} {B : Nat} {tag : Nat → Nat} {g : Nat} {s : St} {bs : List Nat} {va vs : Value} {cs : Array Value} (h : StAt w B tag g s bs va vs cs) (hB : B ≤ w.heap.size) {n : Nat} (hok : StOk s n) (hn : n ≤ 1000) (e : Ev) (hf : formB e = true) (hk : e.kind = 1) (p : Int) :
 Calls Tryz.prog 115 #[.pointer (some ⟨g, 0, none⟩), .agg #[.int .i64 e.kind, .int .i64 e.client, .int .i64 e.tx, .int .i64 e.table, .int .i64 e.row, .int .i64 e.mode, .int .i64 e.code], .int .i64 p] w fun r w' => StepOf w w' B g (nextE s e p) (nextS s e p) r := by
 have h1 := form_1 hf hk
 have HOK := Lib.hid hok
 clear hok
 obtain ⟨k, ec, ex, et, er, em, eq⟩ := e
 obtain ⟨w1, hw1⟩ : ∃ W, w.alloc (.cells #[.int .i64 k, .int .i64 ec, .int .i64 ex, .int .i64 et, .int .i64 er, .int .i64 em, .int .i64 eq] 44) = W := ⟨_, rfl⟩
 have hb1 : Below w.heap.size w w1 := by rw [← hw1]; exact (Below.refl _ _).alloc (Nat.le_refl _) _
 have he1 : w1.heap[w.heap.size]? = some (.cells #[.int .i64 k, .int .i64 ec, .int .i64 ex, .int .i64 et, .int .i64 er, .int .i64 em, .int .i64 eq] 44 (0, 0)) := by rw [← hw1, heap_push, if_pos rfl]
 have hs1 : w1.heap.size = w.heap.size + 1 := by rw [← hw1]; simp
 have HFM := Lib.hid (form_is ⟨k, ec, ex, et, er, em, eq⟩ w1 true hf)
 have HH := Lib.hid h
 have HW1 := Lib.hid hw1
 have HB1 := Lib.hid hb1
 have HE1 := Lib.hid he1
 have HF := Lib.hid hf
 have HZ1 := Lib.hid hs1
 clear h hw1 hb1 he1 hf hs1
 simp only at hk h1 ⊢
 subst hk
 have HC1 := Lib.hid h1
 clear h1
 go_enter Tryz.func115, Tryz.ntmps115
 go_wp2_with fail
 rw [HW1.out]
 refine HFM.out.mono ?_
 rintro r w2 ⟨rfl, hb2⟩
 have hB2 := HB1.out.trans (hb2.mono (by have := HZ1.out; omega))
 have he2 := (hb2.block w.heap.size (by have := HZ1.out; omega)).trans HE1.out
 have E0 := heap_cell he2 (j := 0) rfl
 have E1 := heap_cell he2 (j := 1) rfl
 have E2 := heap_cell he2 (j := 2) rfl
 have E3 := heap_cell he2 (j := 3) rfl
 have E4 := heap_cell he2 (j := 4) rfl
 have E5 := heap_cell he2 (j := 5) rfl
 have E6 := heap_cell he2 (j := 6) rfl
 have hs2 := hB2.size
 have HS2 := Lib.hid (HH.out.below hB2)
 have HB2 := Lib.hid hB2
 have HE2 := Lib.hid he2
 have hBw2 : B ≤ w2.heap.size := by omega
 clear hb2 hB2 he2 hs2
 have HC := Lib.hid (began_st HS2.out hBw2 HOK.out hn ⟨1, ec, ex, et, er, em, eq⟩ rfl ⟨HC1.out.1, HC1.out.2.1⟩)
 have hE : (if ¬ (⟨1, ec, ex, et, er, em, eq⟩ : Ev).tx = s.all.length + 1 ∨ s.dead (⟨1, ec, ex, et, er, em, eq⟩ : Ev).client.toNat = true ∨ s.now (⟨1, ec, ex, et, er, em, eq⟩ : Ev).client.toNat = true then (11 : Int) else 0) = nextE s ⟨1, ec, ex, et, er, em, eq⟩ p := by
  symm
  unfold nextE
  rw [if_neg (show ¬ formB ⟨1, ec, ex, et, er, em, eq⟩ = false by rw [HF.out]; decide), if_pos (show (⟨1, ec, ex, et, er, em, eq⟩ : Ev).kind = 1 from rfl)]
 rw [hE] at HC
 obtain ⟨kk, hkk⟩ : ∃ kk : Int, nextE s ⟨1, ec, ex, et, er, em, eq⟩ p = kk := ⟨_, rfl⟩
 rw [hkk] at HC
 have HKK := Lib.hid hkk
 clear hkk hE
 go_wp2_with (go_at_call 131; refine HC.out.mono ?_; rintro r w5 ⟨rfl, hb5, hs5⟩)
 go_ret
 rw [HKK.out]
 exact ⟨rfl, (HB2.out.mono hB).trans hb5, hs5⟩
set_option maxHeartbeats 2000000 in
theorem next_8 {w : World} {B : Nat} {tag : Nat → Nat} {g : Nat} {s : St} {bs : List Nat} {va vs : Value} {cs : Array Value} (h : StAt w B tag g s bs va vs cs) (hB : B ≤ w.heap.size) (e : Ev) (hf : formB e = true) (hk : e.kind = 8) (p : Int) :
 Calls Tryz.prog 115 #[.pointer (some ⟨g, 0, none⟩), .agg #[.int .i64 e.kind, .int .i64 e.client, .int .i64 e.tx, .int .i64 e.table, .int .i64 e.row, .int .i64 e.mode, .int .i64 e.code], .int .i64 p] w fun r w' => StepOf w w' B g (nextE s e p) (nextS s e p) r := by
 have h1 := form_8 hf hk
 obtain ⟨k, ec, ex, et, er, em, eq⟩ := e
 obtain ⟨w1, hw1⟩ : ∃ W, w.alloc (.cells #[.int .i64 k, .int .i64 ec, .int .i64 ex, .int .i64 et, .int .i64 er, .int .i64 em, .int .i64 eq] 44) = W := ⟨_, rfl⟩
 have hb1 : Below w.heap.size w w1 := by rw [← hw1]; exact (Below.refl _ _).alloc (Nat.le_refl _) _
 have he1 : w1.heap[w.heap.size]? = some (.cells #[.int .i64 k, .int .i64 ec, .int .i64 ex, .int .i64 et, .int .i64 er, .int .i64 em, .int .i64 eq] 44 (0, 0)) := by rw [← hw1, heap_push, if_pos rfl]
 have hs1 : w1.heap.size = w.heap.size + 1 := by rw [← hw1]; simp
 have HFM := Lib.hid (form_is ⟨k, ec, ex, et, er, em, eq⟩ w1 true hf)
 have HH := Lib.hid h
 have HW1 := Lib.hid hw1
 have HB1 := Lib.hid hb1
 have HE1 := Lib.hid he1
 have HF := Lib.hid hf
 have HZ1 := Lib.hid hs1
 clear h hw1 hb1 he1 hf hs1
 simp only at hk h1 ⊢
 subst hk
 obtain ⟨c, rfl⟩ := Int.eq_ofNat_of_zero_le (show 0 ≤ ec by omega)
 have hc8 : c ≤ 8 := by omega
 have k2 : (c : Int) < 9 := by omega
 have k3 : ¬ (c : Int) < 0 := by omega
 clear h1
 go_enter Tryz.func115, Tryz.ntmps115
 go_wp2_with fail
 rw [HW1.out]
 refine HFM.out.mono ?_
 rintro r w2 ⟨rfl, hb2⟩
 have hB2 := HB1.out.trans (hb2.mono (by have := HZ1.out; omega))
 have he2 := (hb2.block w.heap.size (by have := HZ1.out; omega)).trans HE1.out
 have E0 := heap_cell he2 (j := 0) rfl
 have E1 := heap_cell he2 (j := 1) rfl
 have E2 := heap_cell he2 (j := 2) rfl
 have E3 := heap_cell he2 (j := 3) rfl
 have E4 := heap_cell he2 (j := 4) rfl
 have E5 := heap_cell he2 (j := 5) rfl
 have E6 := heap_cell he2 (j := 6) rfl
 have hs2 := hB2.size
 have HS2 := Lib.hid (HH.out.below hB2)
 have HB2 := Lib.hid hB2
 have HE2 := Lib.hid he2
 have hBw2 : B ≤ w2.heap.size := by omega
 clear hb2 hB2 he2 hs2
 have hdc := heap_cell HS2.out.1 (j := 1 + c) (HS2.out.2.2.2.2.1 c (by omega))
 cases hdd : s.dead c with
 | true =>
  rw [hdd] at hdc
  have HDD := Lib.hid hdd
  clear hdd
  go_wp2
  go_quiet (fail)
  go_wp2
  go_ret
  refine step_bad (below_drewN HB2.out _) hB ?_ (by decide)
  unfold nextE
  rw [if_neg (by rw [HF.out]; decide), if_neg (by simp), if_pos (by simp)]
  simp [HDD.out]
 | false =>
  rw [hdd] at hdc
  have HDD := Lib.hid hdd
  clear hdd
  go_wp2
  go_quiet (fail)
  go_wp2_with fail
  generalize hw3 : World.drewN w2 _ = w3
  have hh3 : w3.heap = w2.heap := by rw [← hw3]; rfl
  have hb3 : Below B w w3 := by rw [← hw3]; exact (below_drewN HB2.out _).mono hB
  have hS3 := HS2.out.same (w' := w3) (fun k _ => by rw [hh3])
  have d1 : w3.cell? ⟨w.heap.size, 1, none⟩ = some (.int .i64 c) := by rw [← hw3]; exact E1
  have dc : w3.cell? ⟨g, 1 + c, none⟩ = some (.bool false) := by rw [← hw3]; exact hdc
  have df := heap_free hS3.1 (j := 1 + c)
  have HS3 := Lib.hid hS3
  have HB3 := Lib.hid hb3
  have HGB := Lib.hid HH.out.gB
  clear hw3 hh3 hb3 hS3 E0 E1 E2 E3 E4 E5 E6 hdc
  go_region
  go_wp2
  go_ret
  refine step_ok (tag := tag) ((HB3.out.setCell HGB.out _).trans ⟨rfl, rfl, rfl, Nat.le_refl _, fun _ _ => rfl⟩) ?_ ?_
  ·unfold nextE
   rw [if_neg (by rw [HF.out]; decide), if_neg (by simp), if_pos (by simp)]
   simp [HDD.out]
  ·unfold nextS
   rw [if_neg (by simp), if_pos (by simp)]
   exact ⟨bs, va, vs, _, (HS3.out.setDead c (by omega) true).same (fun k _ => rfl)⟩
set_option maxHeartbeats 2000000 in
theorem next_t {w : World} {B : Nat} {tag : Nat → Nat} {g : Nat} {s : St} {bs : List Nat} {va vs : Value} {cs : Array Value} (h : StAt w B tag g s bs va vs cs) (hB : B ≤ w.heap.size) {n : Nat} (hok : StOk s n) (hn : n ≤ 1000) (h3 : Ser3 s) (e : Ev) (hf : formB e = true) (k1 : ¬ e.kind = 1) (k8 : ¬ e.kind = 8) (p : Int) :
 Calls Tryz.prog 115 #[.pointer (some ⟨g, 0, none⟩), .agg #[.int .i64 e.kind, .int .i64 e.client, .int .i64 e.tx, .int .i64 e.table, .int .i64 e.row, .int .i64 e.mode, .int .i64 e.code], .int .i64 p] w fun r w' => StepOf w w' B g (nextE s e p) (nextS s e p) r := by
 have hE : nextE s e p = if (s.all.length : Int) < e.tx ∨ (s.tx e.tx).state = 3 then 11 else stepE s e p := by
  unfold nextE; rw [if_neg (by rw [hf]; decide), if_neg k1, if_neg k8]
 have hS : nextS s e p = stepS s e p := by unfold nextS; rw [if_neg k1, if_neg k8]
 have ht1 := form_tx hf k8
 rw [hE, hS]
 have HK1 := Lib.hid k1
 have HK8 := Lib.hid k8
 have HOK := Lib.hid hok
 have H3 := Lib.hid h3
 clear hE hS hok h3
 obtain ⟨k, ec, ex, et, er, em, eq⟩ := e
 obtain ⟨w1, hw1⟩ : ∃ W, w.alloc (.cells #[.int .i64 k, .int .i64 ec, .int .i64 ex, .int .i64 et, .int .i64 er, .int .i64 em, .int .i64 eq] 44) = W := ⟨_, rfl⟩
 have hb1 : Below w.heap.size w w1 := by rw [← hw1]; exact (Below.refl _ _).alloc (Nat.le_refl _) _
 have he1 : w1.heap[w.heap.size]? = some (.cells #[.int .i64 k, .int .i64 ec, .int .i64 ex, .int .i64 et, .int .i64 er, .int .i64 em, .int .i64 eq] 44 (0, 0)) := by rw [← hw1, heap_push, if_pos rfl]
 have hs1 : w1.heap.size = w.heap.size + 1 := by rw [← hw1]; simp
 have HFM := Lib.hid (form_is ⟨k, ec, ex, et, er, em, eq⟩ w1 true hf)
 have HH := Lib.hid h
 have HW1 := Lib.hid hw1
 have HB1 := Lib.hid hb1
 have HE1 := Lib.hid he1
 have HF := Lib.hid hf
 have HZ1 := Lib.hid hs1
 clear h hw1 hb1 he1 hf hs1
 simp only at k1 k8 ht1 ⊢
 have kb1 : (k == 1) = false := by simpa using k1
 have kb8 : (k == 8) = false := by simpa using k8
 clear k1 k8
 by_cases hlen : (s.all.length : Int) < ex
 ·have HL := Lib.hid hlen
  have HN : Hid ((if (s.all.length : Int) < ex ∨ (s.tx ex).state = 3 then (11 : Int) else stepE s ⟨k, ec, ex, et, er, em, eq⟩ p) = 11) := Lib.hid (if_pos (.inl hlen))
  clear hlen ht1
  rw [HN.out]
  go_enter Tryz.func115, Tryz.ntmps115
  go_wp2_with fail
  rw [HW1.out]
  refine HFM.out.mono ?_
  rintro r w2 ⟨rfl, hb2⟩
  have hB2 := HB1.out.trans (hb2.mono (by have := HZ1.out; omega))
  have he2 := (hb2.block w.heap.size (by have := HZ1.out; omega)).trans HE1.out
  have E0 := heap_cell he2 (j := 0) rfl
  have E1 := heap_cell he2 (j := 1) rfl
  have E2 := heap_cell he2 (j := 2) rfl
  have E3 := heap_cell he2 (j := 3) rfl
  have E4 := heap_cell he2 (j := 4) rfl
  have E5 := heap_cell he2 (j := 5) rfl
  have E6 := heap_cell he2 (j := 6) rfl
  have hs2 := hB2.size
  have HS2 := Lib.hid (HH.out.below hB2)
  have HB2 := Lib.hid hB2
  have HE2 := Lib.hid he2
  have hBw2 : B ≤ w2.heap.size := by omega
  clear hb2 hB2 he2 hs2
  have HC := Lib.hid (find_no HS2.out ex HL.out)
  go_wp2_with (go_at_call 132; refine HC.out.mono ?_; rintro r w5 ⟨rfl, hb5⟩)
  go_ret
  exact step_bad (HB2.out.trans (hb5.mono HB2.out.size)) hB rfl (by decide)
 ·obtain ⟨i, hi⟩ : ∃ i : Nat, ex = (i : Int) + 1 := ⟨(ex - 1).toNat, by omega⟩
  subst hi
  have hbl := HH.out.lens
  have hil : i < s.all.length := by omega
  obtain ⟨x, hx⟩ : ∃ x, s.all[i]? = some x := ⟨_, List.getElem?_eq_getElem hil⟩
  obtain ⟨b, hb⟩ : ∃ b, bs[i]? = some b := ⟨_, List.getElem?_eq_getElem (by omega)⟩
  have hTx := tx_is hx rfl
  have hbn : bs.length ≤ 100000 := by have := HOK.out.len; omega
  have HX := Lib.hid hx
  have HBI := Lib.hid hb
  have HBN := Lib.hid hbn
  have HTX := Lib.hid hTx
  have HNL := Lib.hid hlen
  clear hbl hil hx hb hTx hbn hlen ht1
  by_cases hs : x.state = 3
  ·have HS := Lib.hid hs
   clear hs
   have HN : Hid ((if (s.all.length : Int) < (i : Int) + 1 ∨ (s.tx ((i : Int) + 1)).state = 3 then (11 : Int) else stepE s ⟨k, ec, (i : Int) + 1, et, er, em, eq⟩ p) = 11) := Lib.hid (if_pos (.inr (by rw [HTX.out]; exact HS.out)))
   rw [HN.out]
   go_enter Tryz.func115, Tryz.ntmps115
   go_wp2_with fail
   rw [HW1.out]
   refine HFM.out.mono ?_
   rintro r w2 ⟨rfl, hb2⟩
   have hB2 := HB1.out.trans (hb2.mono (by have := HZ1.out; omega))
   have he2 := (hb2.block w.heap.size (by have := HZ1.out; omega)).trans HE1.out
   have E0 := heap_cell he2 (j := 0) rfl
   have E1 := heap_cell he2 (j := 1) rfl
   have E2 := heap_cell he2 (j := 2) rfl
   have E3 := heap_cell he2 (j := 3) rfl
   have E4 := heap_cell he2 (j := 4) rfl
   have E5 := heap_cell he2 (j := 5) rfl
   have E6 := heap_cell he2 (j := 6) rfl
   have hs2 := hB2.size
   have HS2 := Lib.hid (HH.out.below hB2)
   have HB2 := Lib.hid hB2
   have HE2 := Lib.hid he2
   have hBw2 : B ≤ w2.heap.size := by omega
   clear hb2 hB2 he2 hs2
   have HC := Lib.hid (find_yes HS2.out HBI.out HX.out HBN.out)
   rw [show decide (x.state ≠ 3) = false by simp [HS.out]] at HC
   go_wp2_with (go_at_call 132; refine HC.out.mono ?_; rintro r w5 ⟨rfl, hb5⟩)
   go_ret
   exact step_bad (HB2.out.trans (hb5.mono HB2.out.size)) hB rfl (by decide)
  ·have HS := Lib.hid hs
   clear hs
   have HN : Hid ((if (s.all.length : Int) < (i : Int) + 1 ∨ (s.tx ((i : Int) + 1)).state = 3 then (11 : Int) else stepE s ⟨k, ec, (i : Int) + 1, et, er, em, eq⟩ p) = stepE s ⟨k, ec, (i : Int) + 1, et, er, em, eq⟩ p) := Lib.hid (if_neg (by rw [HTX.out]; rintro (h | h); exact HNL.out h; exact HS.out h))
   rw [HN.out]
   obtain ⟨kk, hkk⟩ : ∃ kk : Int, stepE s ⟨k, ec, (i : Int) + 1, et, er, em, eq⟩ p = kk := ⟨_, rfl⟩
   have HKK := Lib.hid hkk
   rw [hkk]
   clear hkk
   go_enter Tryz.func115, Tryz.ntmps115
   go_wp2_with fail
   rw [HW1.out]
   refine HFM.out.mono ?_
   rintro r w2 ⟨rfl, hb2⟩
   have hB2 := HB1.out.trans (hb2.mono (by have := HZ1.out; omega))
   have he2 := (hb2.block w.heap.size (by have := HZ1.out; omega)).trans HE1.out
   have E0 := heap_cell he2 (j := 0) rfl
   have E1 := heap_cell he2 (j := 1) rfl
   have E2 := heap_cell he2 (j := 2) rfl
   have E3 := heap_cell he2 (j := 3) rfl
   have E4 := heap_cell he2 (j := 4) rfl
   have E5 := heap_cell he2 (j := 5) rfl
   have E6 := heap_cell he2 (j := 6) rfl
   have hs2 := hB2.size
   have HS2 := Lib.hid (HH.out.below hB2)
   have HB2 := Lib.hid hB2
   have HE2 := Lib.hid he2
   have hBw2 : B ≤ w2.heap.size := by omega
   clear hb2 hB2 he2 hs2
   have HC := Lib.hid (find_yes HS2.out HBI.out HX.out HBN.out)
   rw [show decide (x.state ≠ 3) = true by simp [HS.out]] at HC
   go_wp2_with fail
   refine HC.out.mono ?_
   rintro r w5 ⟨rfl, hb5⟩
   have hB5 := HB2.out.trans (hb5.mono HB2.out.size)
   have he5 := (hb5.block w.heap.size (lt_of_block HE2.out)).trans HE2.out
   have F0 := heap_cell he5 (j := 0) rfl
   have F1 := heap_cell he5 (j := 1) rfl
   have F2 := heap_cell he5 (j := 2) rfl
   have F3 := heap_cell he5 (j := 3) rfl
   have F4 := heap_cell he5 (j := 4) rfl
   have F5 := heap_cell he5 (j := 5) rfl
   have F6 := heap_cell he5 (j := 6) rfl
   have HB5 := Lib.hid hB5
   have HC2 := Lib.hid (step_st (HS2.out.below hb5) (by have := hB5.size; omega) HBI.out HX.out HOK.out hn H3.out HS.out ⟨k, ec, (i : Int) + 1, et, er, em, eq⟩ HF.out HK1.out HK8.out rfl p)
   rw [HKK.out] at HC2
   clear hB5 he5 hb5 HC
   go_wp2_with (go_at_call 133; refine HC2.out.mono ?_; rintro r w6 ⟨rfl, hb6, hs6⟩)
   go_ret
   exact ⟨rfl, (HB5.out.mono hB).trans hb6, hs6⟩
theorem next_st {w : World} {B : Nat} {tag : Nat → Nat} {g : Nat} {s : St} {bs : List Nat} {va vs : Value} {cs : Array Value} (h : StAt w B tag g s bs va vs cs) (hB : B ≤ w.heap.size) {n : Nat} (hok : StOk s n) (hn : n ≤ 1000) (h3 : Ser3 s) (e : Ev) (p : Int) :
 Calls Tryz.prog 115 #[.pointer (some ⟨g, 0, none⟩), .agg #[.int .i64 e.kind, .int .i64 e.client, .int .i64 e.tx, .int .i64 e.table, .int .i64 e.row, .int .i64 e.mode, .int .i64 e.code], .int .i64 p] w fun r w' => StepOf w w' B g (nextE s e p) (nextS s e p) r := by
 cases hf : formB e with
 | false => exact next_bad h hB e hf p
 | true =>
  by_cases k1 : e.kind = 1
  ·exact next_1 h hB hok hn e hf k1 p
  ·by_cases k8 : e.kind = 8
   ·exact next_8 h hB e hf k8 p
   ·exact next_t h hB hok hn h3 e hf k1 k8 p
end Go.Proofs.YtjpjlfjaapfnkaaGreatDoor.C20
namespace Go.Proofs.YtjpjlfjaapfnkaaGreatDoor.C20
open Go.ChangeShapes Go.WideShapes Go.ChangeAt Go.RowKit Go.Maps
theorem ser3_start : Ser3 start := fun k hk => by simp [start] at hk
theorem Ser3.next {s : St} {e : Ev} {n : Int} (h : Ser3 s) (h0 : nextE s e n = 0) (hl : ∀ k ∈ s.serial, k ≤ s.all.length) : Ser3 (nextS s e n) := by
 have hf := next_form h0
 by_cases k1 : e.kind = 1
 ·unfold nextS
  rw [if_pos k1]
  intro k hk
  obtain ⟨a, b⟩ := h k hk
  have hkl := hl k hk
  refine ⟨a, ?_⟩
  rw [← b]
  unfold St.tx
  simp only [List.getD_eq_getElem?_getD]
  rw [List.getElem?_append_left (by omega)]
 by_cases k8 : e.kind = 8
 ·unfold nextS
  rw [if_neg k1, if_pos k8]
  exact h
 obtain ⟨_, h1, h2, h3, h4⟩ := next_tx h0 k1 k8
 have key : ∀ (y : Tx) (d n : Nat → Bool) (ser : List Int), (y.state = 3 ∨ True) → ∀ k ∈ s.serial, 1 ≤ k ∧ (St.tx ⟨s.all.set (e.tx - 1).toNat y, d, n, ser⟩ k).state = 3 := fun y d n ser _ k hk => by
  obtain ⟨a, b⟩ := h k hk
  refine ⟨a, ?_⟩
  have hne : (k - 1).toNat ≠ (e.tx - 1).toNat := fun he => h3 (by
   have : k = e.tx := by omega
   rw [← this]; exact b)
  rw [← b]
  unfold St.tx
  simp only [List.getD_eq_getElem?_getD, List.getElem?_set]
  rw [if_neg (fun he => hne he.symm)]
 unfold nextS
 rw [if_neg k1, if_neg k8]
 unfold stepS
 by_cases k2 : e.kind = 2
 ·simp only [k2, if_true]; exact key _ _ _ _ (.inr trivial)
 by_cases k3 : e.kind = 3
 ·rw [if_neg k2, if_pos k3]; exact key _ _ _ _ (.inr trivial)
 by_cases k4 : e.kind = 4
 ·rw [if_neg k2, if_neg k3, if_pos k4]; exact key _ _ _ _ (.inr trivial)
 by_cases k5 : e.kind = 5
 ·rw [if_neg k2, if_neg k3, if_neg k4, if_pos k5]; exact key _ _ _ _ (.inr trivial)
 by_cases k6 : e.kind = 6
 ·rw [if_neg k2, if_neg k3, if_neg k4, if_neg k5, if_pos k6]
  intro k hk
  rcases List.mem_append.1 hk with hk | hk
  ·exact key _ _ _ _ (.inr trivial) k hk
  ·rw [List.mem_singleton] at hk
   subst hk
   refine ⟨h1, ?_⟩
   unfold St.tx St.over
   simp only [List.getD_eq_getElem?_getD]
   rw [List.getElem?_set_self (by omega)]
   rfl
 ·rw [if_neg k2, if_neg k3, if_neg k4, if_neg k5, if_neg k6]; exact key _ _ _ _ (.inr trivial)
theorem ser3_after {s : St} {l : List Ev} {i : Nat} (h : Ser3 s) (hk : StOk s i) (ho : okF s l i = true) : Ser3 (after s l i) := by
 induction l generalizing s i with
 | nil => exact h
 | cons e r ih =>
  rw [ok_cons] at ho
  simp at ho
  rw [after_cons]
  exact ih (h.next ho.1 (fun k hk' => (hk.ser k hk').2)) (hk.next ho.1) ho.2
theorem take_snoc {l : List Ev} {k : Nat} (h : k < l.length) : l.take (k + 1) = l.take k ++ [l.getD k Ev.none] := by
 rw [List.take_succ_eq_append_getElem h, List.getD_eq_getElem?_getD, List.getElem?_eq_getElem h]
 rfl
def stF (l : List Ev) (k : Nat) : St := after start (l.take k) 0
theorem stF_next {l : List Ev} {k : Nat} (h : k < l.length) : stF l (k + 1) = nextS (stF l k) (l.getD k Ev.none) k := by
 unfold stF
 rw [take_snoc h, after_append]
 simp [after, List.length_take]
 rw [Nat.min_eq_left (by omega)]
theorem okF_next {l : List Ev} {k : Nat} (h : k < l.length) (h0 : nextE (stF l k) (l.getD k Ev.none) k = 0) (ho : okF start (l.take k) 0 = true) : okF start (l.take (k + 1)) 0 = true := by
 rw [take_snoc h, ok_append, ho]
 simp only [Bool.true_and, Nat.zero_add, List.length_take]
 rw [Nat.min_eq_left (by omega), ok_cons, ok_nil]
 unfold stF at h0
 rw [decide_eq_true h0]; rfl
theorem play_stop {l : List Ev} {k : Nat} (h : k < l.length) (h0 : ¬ nextE (stF l k) (l.getD k Ev.none) k = 0) (ho : okF start (l.take k) 0 = true) : playF start l 0 = .inr (k, nextE (stF l k) (l.getD k Ev.none) k) := by
 have e : l = l.take k ++ (l.getD k Ev.none :: l.drop (k + 1)) := by
  rw [List.getD_eq_getElem?_getD, List.getElem?_eq_getElem h]
  simp
 conv => lhs; rw [e]
 rw [play_app ho, Nat.zero_add, List.length_take, Nat.min_eq_left (by omega), play_cons]
 unfold stF at h0 ⊢
 rw [if_neg h0]
theorem nextE_pos {s : St} {e : Ev} {n : Int} (h : ¬ nextE s e n = 0) : 1 ≤ nextE s e n ∧ nextE s e n ≤ 15 := by
 have := nextE_in s e n
 unfold codeE at this
 omega
def PlayOf (w w' : World) (r : List Int ⊕ Nat × Int) (e : Ending) : Prop :=
 Below w.heap.size w w' ∧ match r with
 | .inl ser => ∃ v, e = .returned (.tuple #[v, .nilIface]) ∧ w'.ownsRow w.heap.size 3 1 v ser.length (numV .i64 ser)
 | .inr (i, k) => ∃ b, e = .returned (.tuple #[.slice none 0 0, .iface 97 (.pointer (some ⟨b, 0, none⟩))]) ∧ w.heap.size ≤ b ∧ 1 ≤ k ∧ k ≤ 15 ∧ w'.cell? ⟨b, 0, none⟩ = some (.int .i64 (i : Int)) ∧ w'.cell? ⟨b, 1, none⟩ = some (.iface 70 (.int .i64 k))
theorem start_at (w : World) : StX (w.alloc (.cells #[.slice none 0 0, .bool false, .bool false, .bool false, .bool false, .bool false, .bool false, .bool false, .bool false, .bool false, .pointer none, .pointer none, .pointer none, .pointer none, .pointer none, .pointer none, .pointer none, .pointer none, .pointer none, .slice none 0 0] 189)) w.heap.size (fun _ => 0) w.heap.size start := by
 refine ⟨[], .slice none 0 0, .slice none 0 0, _, by rw [heap_push, if_pos rfl], rfl, rfl, rfl, fun k hk => ?_, fun k hk => ⟨none, ?_, rfl⟩, Nat.le_refl _, rfl, ⟨rfl, .inl ⟨rfl, rfl⟩⟩, fun k e => by simp [Value.ownBlock] at e, ⟨rfl, .inl ⟨rfl, rfl⟩⟩, fun k e => by simp [Value.ownBlock] at e, rfl, fun i b x hi => by simp at hi⟩
 ·obtain rfl | rfl | rfl | rfl | rfl | rfl | rfl | rfl | rfl : k = 0 ∨ k = 1 ∨ k = 2 ∨ k = 3 ∨ k = 4 ∨ k = 5 ∨ k = 6 ∨ k = 7 ∨ k = 8 := by omega
  all_goals rfl
 ·obtain rfl | rfl | rfl | rfl | rfl | rfl | rfl | rfl | rfl : k = 0 ∨ k = 1 ∨ k = 2 ∨ k = 3 ∨ k = 4 ∨ k = 5 ∨ k = 6 ∨ k = 7 ∨ k = 8 := by omega
  all_goals rfl
set_option maxRecDepth 100000 in
set_option maxHeartbeats 4000000 in
theorem play_any (A : Option Addr) (n cp : Nat) (es : List Ev) (w : World) (hr : RdE w A es) (hl : es.length = n) (hn : n ≤ 1000) :
 Calls Tryz.prog 98 #[.slice A n cp] w fun e w' => PlayOf w w' (playF start es 0) e := by
 have HR := Lib.hid hr
 have HL := Lib.hid hl
 clear hr hl
 have hst := start_at w
 go_enter Tryz.func98, Tryz.ntmps98
 go_wp2
 have hb1 : Below w.heap.size w (w.alloc (.cells #[.slice none 0 0, .bool false, .bool false, .bool false, .bool false, .bool false, .bool false, .bool false, .bool false, .bool false, .pointer none, .pointer none, .pointer none, .pointer none, .pointer none, .pointer none, .pointer none, .pointer none, .pointer none, .slice none 0 0] 189)) := (Below.refl _ _).alloc (Nat.le_refl _) _
 generalize w.alloc (.cells #[.slice none 0 0, .bool false, .bool false, .bool false, .bool false, .bool false, .bool false, .bool false, .bool false, .bool false, .pointer none, .pointer none, .pointer none, .pointer none, .pointer none, .pointer none, .pointer none, .pointer none, .pointer none, .slice none 0 0] 189) = w1 at *
 have HST := Lib.hid hst
 have HB1 := Lib.hid hb1
 clear hst hb1
 go_loopw [12] (fun i wr => ∃ k : Nat, k ≤ n ∧ i = .int .i64 k ∧ Below w.heap.size w wr ∧ okF start (es.take k) 0 = true ∧ ∃ tag, StX wr w.heap.size tag w.heap.size (stF es k)) (fun i _ => n - (intOf i).toNat)
 case atStart => exact ⟨0, Nat.zero_le _, rfl, HB1.out, rfl, _, HST.out⟩
 case round =>
  obtain ⟨k, hk, rfl, hbr, hok, tag, hX⟩ := hrel
  obtain ⟨bs, va, vs, cs, hS⟩ := hX
  have hbs := hbr.size
  have hsok : StOk (stF es k) k := by
   have := stok_after stok_start hok
   rw [Nat.zero_add, List.length_take, Nat.min_eq_left (by rw [HL.out]; exact hk)] at this
   exact this
  have hs3 := ser3_after ser3_start stok_start hok
  have HSO := Lib.hid hsok
  have HS3 : Hid (Ser3 (stF es k)) := Lib.hid hs3
  have HOK := Lib.hid hok
  have HBR := Lib.hid hbr
  have HS := Lib.hid hS
  clear hsok hs3 hok
  by_cases hlt : k < n
  ·have hlt' : (k : Int) < n := by omega
   obtain ⟨ge, oe, hA, hc⟩ := HR.out.below hbr (Nat.le_refl _)
   obtain ⟨rfl, lge⟩ := hA (by rw [HL.out]; omega)
   obtain ⟨p0, p1, p2, p3, p4, p5, p6⟩ := hc k (by rw [HL.out]; exact hlt)
   have hkl : k < es.length := by rw [HL.out]; exact hlt
   have HKL := Lib.hid hkl
   clear hA hc hkl hS hbr
   obtain ⟨E, hE⟩ : ∃ E, es.getD k Ev.none = E := ⟨_, rfl⟩
   have HE := Lib.hid hE
   rw [hE] at p0 p1 p2 p3 p4 p5 p6
   clear hE
   have hbE : Below wr.heap.size wr (wr.alloc (.cells #[.int .i64 E.kind, .int .i64 E.client, .int .i64 E.tx, .int .i64 E.table, .int .i64 E.row, .int .i64 E.mode, .int .i64 E.code] 44)) := (Below.refl _ _).alloc (Nat.le_refl _) _
   have HBE := Lib.hid hbE
   have HN := Lib.hid (next_st (HS.out.below hbE) (by simp; omega) HSO.out (by omega) HS3.out E k)
   clear hbE
   by_cases h0 : nextE (stF es k) E k = 0
   ·have H0 := Lib.hid h0
    rw [h0] at HN
    clear h0
    go_wp2_with fail
    refine HN.out.mono ?_
    rintro r w5 ⟨rfl, hb5, hs5⟩
    have HS5 := Lib.hid (hs5 rfl)
    rw [show errV 0 = Value.nilIface from rfl]
    clear hs5
    go_wp2
    go_roundw
    case rel =>
     refine ⟨k + 1, by omega, by go_num, ?_, ?_, ?_⟩
     ·exact (HBR.out.trans (HBE.out.mono hbs)).trans hb5
     ·exact okF_next HKL.out (by rw [HE.out]; exact H0.out) HOK.out
     ·rw [stF_next HKL.out, HE.out]; exact HS5.out
    case measure => simp [intOf]; omega
   ·have H0 := Lib.hid h0
    have hpos := nextE_pos h0
    have hstop := play_stop HKL.out (by rw [HE.out]; exact h0) HOK.out
    rw [HE.out] at hstop
    obtain ⟨kk, hkk⟩ : ∃ kk, nextE (stF es k) E k = kk := ⟨_, rfl⟩
    rw [hkk] at HN hpos hstop h0
    have HP := Lib.hid hpos
    have HSTOP := Lib.hid hstop
    have hev : errV kk = .iface 70 (.int .i64 kk) := by unfold errV; rw [if_neg h0]
    have HEV := Lib.hid hev
    clear h0 hpos hstop hkk hev
    go_wp2_with fail
    refine HN.out.mono ?_
    rintro r w5 ⟨rfl, hb5, hs5⟩
    rw [HEV.out]
    clear hs5
    have hBB := (HBR.out.trans (HBE.out.mono hbs)).trans hb5
    have hb5s := hBB.size
    go_wp2
    go_ret2
    rw [HSTOP.out]
    refine ⟨hBB.alloc hb5s _, w5.heap.size, rfl, hb5s, HP.out.1, HP.out.2, by simp, by simp⟩
  ·have hkn : k = n := by omega
   subst hkn
   have hge : ¬ (k : Int) < k := by omega
   have hpl := play_ok HOK.out
   rw [List.take_of_length_le (by rw [HL.out]; exact Nat.le_refl _)] at hpl
   have c19 := heap_cell hS.1 (j := 19) hS.2.2.2.1
   have hown := hS.2.2.2.2.2.2.2.2.2.2.1
   have hst : stF es k = after start es 0 := by unfold stF; rw [List.take_of_length_le (by rw [HL.out]; exact Nat.le_refl _)]
   have HOW := Lib.hid hown
   have HPL := Lib.hid hpl
   have HSTF := Lib.hid hst
   clear hpl hown hst hS hbr
   go_wp2
   go_ret2
   rw [HPL.out]
   refine ⟨HBR.out, vs, rfl, ?_⟩
   have := HOW.out
   rw [HSTF.out] at this
   exact this
end Go.Proofs.YtjpjlfjaapfnkaaGreatDoor.C20
namespace Go.Proofs.YtjpjlfjaapfnkaaGreatDoor.C20
open Go.ChangeShapes Go.WideShapes Go.ChangeAt Go.RowKit Go.Maps
theorem ev_info : (Tryz.prog.info? 44).map (fun i => (i.zero, i.size, i.bytes)) = some (some (.agg #[.int .i64 0, .int .i64 0, .int .i64 0, .int .i64 0, .int .i64 0, .int .i64 0, .int .i64 0]), 7, 56) := by kernel_rfl
theorem evV_length (l : List Ev) : (evV l).length = 7 * l.length := by
 induction l with
 | nil => rfl
 | cons e r ih => rw [show evV (e :: r) = e.cells ++ evV r from rfl, List.length_append, ih, show e.cells.length = 7 from rfl, List.length_cons]; omega
theorem evV_append (a b : List Ev) : evV (a ++ b) = evV a ++ evV b := by simp [evV]
theorem evV_get (es : List Ev) (i j : Nat) (hi : i < es.length) (hj : j < 7) : (evV es)[7 * i + j]? = (es.getD i Ev.none).cells[j]? := by
 induction es generalizing i with
 | nil => simp at hi
 | cons e r ih =>
  rw [show evV (e :: r) = e.cells ++ evV r from rfl]
  have hl : e.cells.length = 7 := rfl
  cases i with
  | zero => rw [List.getElem?_append_left (by omega)]; simp
  | succ i =>
   rw [List.getElem?_append_right (by omega), hl, show 7 * (i + 1) + j - 7 = 7 * i + j from by omega, ih i (by simpa using hi)]
   simp
theorem ev_one (e : Ev) : ∀ u ∈ e.cells, u.oneCell' = true := by
 intro u hu
 simp [Ev.cells] at hu
 rcases hu with rfl | rfl | rfl | rfl | rfl | rfl | rfl <;> rfl
theorem cells7_of {w : World} {g o : Nat} {e : Ev} (h : ∀ j u, j < 7 → e.cells[j]? = some u → w.cell? ⟨g, o + j, none⟩ = some u) : Cells7 w g o e :=
 ⟨h 0 _ (by omega) rfl, h 1 _ (by omega) rfl, h 2 _ (by omega) rfl, h 3 _ (by omega) rfl, h 4 _ (by omega) rfl, h 5 _ (by omega) rfl, h 6 _ (by omega) rfl⟩
theorem rde_of_own {w : World} {B : Nat} {T : TypeId} {v : Value} {n : Nat} {es : List Ev} (h : w.ownsRow B T 7 v n (evV es)) : es.length = n ∧ ∃ A cap, v = .slice A n cap ∧ n ≤ cap ∧ RdE w A es := by
 have hl : es.length = n := by have := h.1; rw [evV_length] at this; omega
 refine ⟨hl, ?_⟩
 rcases h.2 with ⟨rfl, h0⟩ | ⟨g, cap, cur, rfl, hg, hh, hc, _⟩
 ·subst h0
  have : es = [] := List.eq_nil_of_length_eq_zero hl
  subst this
  exact ⟨none, 0, rfl, Nat.le_refl _, 0, 0, fun h => by simp at h, fun i h => by simp at h⟩
 ·refine ⟨_, cap, rfl, hc, g, 0, fun _ => ⟨rfl, (Array.getElem?_eq_some_iff.1 hh).1⟩, fun i hi => cells7_of fun j u hj hu => ?_⟩
  have := h.cells (g := g) rfl (7 * i + j) u ((evV_get es i j hi hj).trans hu)
  rw [add0] at this
  rwa [show 0 + i * 7 + j = 7 * i + j by omega]
theorem rde_of_block {w : World} {g : Nat} {cs : Array Value} {T : TypeId} {fr : Nat × Nat} {es : List Ev} (h : w.heap[g]? = some (.cells cs T fr)) (hc : cs.toList = evV es) : RdE w (some ⟨g, 0, none⟩) es := by
 refine ⟨g, 0, fun _ => ⟨rfl, (Array.getElem?_eq_some_iff.1 h).1⟩, fun i hi => cells7_of fun j u hj hu => ?_⟩
 have hg := (evV_get es i j hi hj).trans hu
 rw [← hc] at hg
 have := World.news_of_block h (7 * i + j) u hg
 rw [add0] at this
 rwa [show 0 + i * 7 + j = 7 * i + j by omega]
theorem run_append_evs (B : Nat) (v : Value) (k : Nat) (xs : List Ev) (w : World) (hown : w.ownsRow B 44 7 v k (evV xs)) (A : Option Addr) (n c : Nat) (bs : List Ev) (hl : bs.length = n) (h : RdE w A bs) (hB : B ≤ w.heap.size) (hk : k + n ≤ 1000000) :
 ∃ v' w', (Builtin.append_ #[55, 55] 55 #[v, .slice A n c]).run Tryz.prog w = .ok v' w' ∧ w'.ownsRow B 44 7 v' (k + n) (evV (xs ++ bs)) ∧ w.grownBy w' v.ownBlock ∧ (v'.ownBlock = v.ownBlock ∨ v'.ownBlock = some w.heap.size) := by
 obtain ⟨i0, hi0, hz0, hz1, hz2⟩ := info_parts ev_info
 rw [evV_append]
 cases A with
 | none =>
  obtain ⟨b, off, hA, hc⟩ := h
  have hn : n = 0 := by
   rcases Nat.eq_zero_or_pos n with h | h
   ·exact h
   ·cases (hA (by omega)).1
  subst hn
  have hb : bs = [] := List.eq_nil_of_length_eq_zero hl
  subst hb
  refine ⟨v, w, ?_, by simpa [evV] using hown, World.grownBy.refl w _, .inl rfl⟩
  rcases hown.2 with ⟨rfl, rfl⟩ | ⟨g, cap, cur, rfl, _, _, hnc, _⟩
  ·simp [Builtin.append_, run_underlying Tryz.underlying55, sizeOf, typeInfo, hi0, Builtin.lenOf, Builtin.firstCells]
  ·simp [Builtin.append_, run_underlying Tryz.underlying55, sizeOf, typeInfo, hi0, Builtin.lenOf, Builtin.firstCells, hnc, storeCells]
 | some ad =>
  obtain ⟨b, off, hA, hc⟩ := h
  obtain ⟨v', w', hrun, h2, h3, _, h5⟩ := run_append_own_at (P := Tryz.prog) w B 55 55 44 i0 _ 7 56 Tryz.underlying55 hi0 hz0 hz1 hz2 rfl (by decide) v k (evV xs) hown ad n c (evV bs) (by rw [evV_length, hl, Nat.mul_comm])
   (fun j u hu => by
    have hj : j < 7 * n := by
     rcases Nat.lt_or_ge j (evV bs).length with h | h
     ·rw [evV_length, hl] at h; exact h
     ·rw [List.getElem?_eq_none h] at hu; cases hu
    have hq : j / 7 < bs.length := by omega
    have := (hA (by omega)).1
    cases this
    have e : (⟨b, off, none⟩ : Addr).add j = ⟨b, off + j, none⟩ := by unfold Addr.add; by_cases h : j = 0 <;> simp [h]
    have hg := evV_get bs (j / 7) (j % 7) hq (by omega)
    rw [show 7 * (j / 7) + j % 7 = j from by omega, hu] at hg
    obtain ⟨c0, c1, c2, c3, c4, c5, c6⟩ := hc (j / 7) hq
    rw [e]
    have h4 : j % 7 = 0 ∨ j % 7 = 1 ∨ j % 7 = 2 ∨ j % 7 = 3 ∨ j % 7 = 4 ∨ j % 7 = 5 ∨ j % 7 = 6 := by omega
    rcases h4 with h4 | h4 | h4 | h4 | h4 | h4 | h4 <;> rw [h4] at hg <;> rw [hg]
    ·rw [show off + j = off + j / 7 * 7 from by omega, c0]; rfl
    ·rw [show off + j = off + j / 7 * 7 + 1 from by omega, c1]; rfl
    ·rw [show off + j = off + j / 7 * 7 + 2 from by omega, c2]; rfl
    ·rw [show off + j = off + j / 7 * 7 + 3 from by omega, c3]; rfl
    ·rw [show off + j = off + j / 7 * 7 + 4 from by omega, c4]; rfl
    ·rw [show off + j = off + j / 7 * 7 + 5 from by omega, c5]; rfl
    ·rw [show off + j = off + j / 7 * 7 + 6 from by omega, c6]; rfl)
   (by intro u hu; obtain ⟨x, _, hx⟩ := List.mem_flatMap.1 hu; exact ev_one x u hx) (by unfold maxLen; omega) (by omega) hB
  exact ⟨v', w', hrun, h2, h3, h5⟩
theorem wpList_append_evs {ops : Array Oper} {rest : List Oper} {o : Oper} {a : Act} {Q : Exit → Act → World → Prop} {w : World} (hgd : o.guard = none) (s x : Operand)
 (ho : o.op = .call { callee := .builtin .append, args := #[s, x], argTypes := #[55, 55] }) (hty : o.type = 55)
 (B : Nat) (v : Value) (k : Nat) (xs : List Ev) (hs : a.eval s = v) (hown : w.ownsRow B 44 7 v k (evV xs)) (A : Option Addr) (n c : Nat) (bs : List Ev) (hx : a.eval x = .slice A n c) (hl : bs.length = n) (h : RdE w A bs) (hB : B ≤ w.heap.size) (hk : k + n ≤ 1000000)
 (hc : ∀ v' w', w'.ownsRow B 44 7 v' (k + n) (evV (xs ++ bs)) → w.grownBy w' v.ownBlock → wpList Tryz.prog ops Q rest (a.put o.dst v') w') : wpList Tryz.prog ops Q (o :: rest) a w := by
 refine wpList_plain hgd fun K hK => ?_
 obtain ⟨v', w', hrun, h2, h3, _⟩ := run_append_evs B v k xs w hown A n c bs hl h hB hk
 unfold Oper.wp execOp
 simp only [ho, hty, resolve, invoke, builtin, Sem.run_bind, Sem.run_pure, Result.andThen_ok, List.map_toArray, List.map_cons, List.map_nil, hs, hx, hrun]
 exact hK _ _ (hc v' w' h2 h3)
end Go.Proofs.YtjpjlfjaapfnkaaGreatDoor.C20
namespace Go.Proofs.YtjpjlfjaapfnkaaGreatDoor.C20
open Go.ChangeShapes Go.WideShapes Go.ChangeAt Go.RowKit Go.Maps
def FltAt (w : World) (b i : Nat) (k : Int) : Prop := 1 ≤ k ∧ k ≤ 15 ∧ w.cell? ⟨b, 0, none⟩ = some (.int .i64 (i : Int)) ∧ w.cell? ⟨b, 1, none⟩ = some (.iface 70 (.int .i64 k))
theorem FltAt.below {w w' : World} {b i : Nat} {k : Int} (h : FltAt w b i k) (hb : Below w.heap.size w w') : FltAt w' b i k := ⟨h.1, h.2.1, cell_keep hb h.2.2.1, cell_keep hb h.2.2.2⟩
theorem FltAt.err {w : World} {b i : Nat} {k : Int} (h : FltAt w b i k) : ErrIs w (.iface 97 (.pointer (some ⟨b, 0, none⟩))) k i := .inr (.inr ⟨b, rfl, h.1, h.2.1, h.2.2.1, h.2.2.2⟩)
set_option maxHeartbeats 1000000 in
theorem check_good (A : Option Addr) (n cp : Nat) (es : List Ev) (w : World) (hr : RdE w A es) (hl : es.length = n) (hn : n ≤ 1000) (ho : okF start es 0 = true) :
 Calls Tryz.prog 81 #[.slice A n cp] w fun e w' => e = .returned .nilIface ∧ Below w.heap.size w w' := by
 have HP := Lib.hid (play_any A n cp es w hr hl hn)
 rw [play_ok ho] at HP
 clear hr hl ho
 go_enter Tryz.func81, Tryz.ntmps81
 go_wp2_with fail
 refine HP.out.mono ?_
 rintro e w1 ⟨hb, v, rfl, _⟩
 go_wp2
 go_ret
 exact ⟨rfl, hb⟩
set_option maxHeartbeats 1000000 in
theorem check_bad (A : Option Addr) (n cp : Nat) (es : List Ev) (w : World) (hr : RdE w A es) (hl : es.length = n) (hn : n ≤ 1000) {i : Nat} {k : Int} (ho : playF start es 0 = .inr (i, k)) :
 Calls Tryz.prog 81 #[.slice A n cp] w fun e w' => (∃ b, e = .returned (.iface 97 (.pointer (some ⟨b, 0, none⟩))) ∧ FltAt w' b i k) ∧ Below w.heap.size w w' := by
 have HP := Lib.hid (play_any A n cp es w hr hl hn)
 rw [ho] at HP
 clear hr hl ho
 go_enter Tryz.func81, Tryz.ntmps81
 go_wp2_with fail
 refine HP.out.mono ?_
 rintro e w1 ⟨hb, b, rfl, _, h1, h2, h3, h4⟩
 have HF : Hid (FltAt w1 b i k) := Lib.hid ⟨h1, h2, h3, h4⟩
 clear h1 h2 h3 h4
 go_wp2
 go_ret
 exact ⟨⟨b, rfl, HF.out⟩, hb⟩
end Go.Proofs.YtjpjlfjaapfnkaaGreatDoor.C20
namespace Go.Proofs.YtjpjlfjaapfnkaaGreatDoor
open Go.ChangeShapes Go.WideShapes Go.ChangeAt Go.RowKit
open C20 (Ev formB evC RdE playF okF nextE)
theorem next_form (e : Ev) : (nextE C20.start e 0 = 5 ↔ formB e = false) := by
 unfold nextE
 constructor
 ·intro h
  split at h
  ·assumption
  ·exfalso
   split at h
   ·split at h <;> omega
   ·split at h
    ·split at h <;> omega
    ·split at h
     ·omega
     ·unfold C20.stepE at h
      simp only at h
      repeat' split at h
      all_goals omega
 ·intro h; rw [if_pos h]
theorem rde_one (W : World) (e : Ev) (T : TypeId) : RdE (W.alloc (.cells (evC e) T)) (some ⟨W.heap.size, 0, none⟩) [e] :=
 C20.rde_of_block (g := W.heap.size) (cs := evC e) (T := T) (fr := (0, 0)) (by rw [heap_push, if_pos rfl]) rfl
set_option maxRecDepth 100000 in
theorem is_nil (b : Int) (w : World) :
 Calls Tryz.prog 48 #[.nilIface, .iface 70 (.int .i64 b)] w fun e w' => e = .returned (.bool false) ∧ w = w' := by
 have hq : ∀ W : World, (binOp .eql 28 .nilIface (.iface 70 (.int .i64 b))).run Tryz.prog W = .ok (.bool false) W := fun W => by kernel_rfl
 go_enter Tryz.func48, Tryz.ntmps48
 go_wp2
 go_ret
 exact ⟨rfl, rfl⟩
set_option maxHeartbeats 1000000 in
theorem form_any (e : Ev) (w : World) :
 Calls Tryz.prog 49 #[.agg (evC e)] w fun r w' => r = .returned (.bool (formB e)) ∧ Below w.heap.size w w' := by
 have hbA : Below w.heap.size w ((w.alloc (.cells (evC e) 44)).alloc (.cells (evC e) 44)) := ((Below.refl _ _).alloc (Nat.le_refl _) _).alloc (by simp) _
 have hr := rde_one (w.alloc (.cells (evC e) 44)) e 44
 have HB := Lib.hid hbA
 have HSZ := Lib.hid (show (w.alloc (.cells (evC e) 44)).heap.size = w.heap.size + 1 from by simp)
 rw [HSZ.out] at hr
 have hn := next_form e
 cases hp : playF C20.start [e] 0 with
 | inl ser =>
  have hf : formB e = true := by
   cases hf : formB e with
   | true => rfl
   | false =>
    have h5 : nextE C20.start e ((0 : Nat) : Int) = 5 := hn.2 hf
    rw [C20.play_cons, h5, if_neg (by decide)] at hp; cases hp
  have HC := Lib.hid (C20.check_good _ 1 1 [e] _ hr rfl (by omega) (by unfold okF; rw [hp]))
  rw [hf]
  clear hr hp hn hf hbA
  obtain ⟨k, c, x, t, r, m, q⟩ := e
  unfold evC at HC HB HSZ ⊢
  simp only at HC HB HSZ ⊢
  go_enter Tryz.func49, Tryz.ntmps49
  go_wp2_with fail
  refine HC.out.mono ?_
  rintro e w5 ⟨rfl, hb5⟩
  go_wp2_with (go_at_call 48; refine (is_nil _ _).mono ?_; rintro e w' ⟨rfl, rfl⟩)
  go_ret
  exact ⟨rfl, HB.out.trans (hb5.mono HB.out.size)⟩
 | inr p =>
  obtain ⟨i, k0⟩ := p
  have hk : k0 = nextE C20.start e 0 := by
   rw [C20.play_cons] at hp
   split at hp
   ·cases hp
   ·have := Sum.inr.inj hp; injection this with _ h2; exact h2.symm
  have HK := Lib.hid (show (k0 == 5) = !formB e from by
   rw [hk]
   cases hf : formB e with
   | true =>
    have : nextE C20.start e 0 ≠ 5 := fun q => by have := hn.1 q; rw [hf] at this; cases this
    simpa using this
   | false => rw [hn.2 hf]; rfl)
  have HC := Lib.hid (C20.check_bad _ 1 1 [e] _ hr rfl (by omega) hp)
  generalize formB e = fb at *
  clear hr hp hn hbA hk
  obtain ⟨k, c, x, t, r, m, q⟩ := e
  unfold evC at HC HB HSZ ⊢
  simp only at HC HB HSZ ⊢
  go_enter Tryz.func49, Tryz.ntmps49
  go_wp2_with fail
  refine HC.out.mono ?_
  rintro e w5 ⟨⟨b, rfl, hF⟩, hb5⟩
  have hI := is_fault b k0 5 w5 hF.2.2.2
  rw [HK.out] at hI
  have HI := Lib.hid hI
  clear hI hF
  go_wp2_with (go_at_call 48; refine HI.out.mono ?_; rintro e w' ⟨rfl, rfl⟩)
  go_ret
  exact ⟨by simp, HB.out.trans (hb5.mono HB.out.size)⟩
end Go.Proofs.YtjpjlfjaapfnkaaGreatDoor

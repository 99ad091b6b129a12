/-
  model.next: an event. No conditions.
-/
import Derived.Test.YtggkohkngockoaaDoorPStep
import Derived.Test.YtggkohkngockoaaDoorPBegan
import Derived.Test.YtggkohkngockoaaDoorPForm2
namespace Go.Proofs.YtggkohkngockoaaDoor
open Go.ChangeShapes Go.WideShapes Go.ChangeAt Go.RowKit Go.Maps
set_option linter.unusedVariables false
set_option linter.unusedSimpArgs false

theorem step_st {w : World} {B : Nat} {tag : Nat → Nat} {g : Nat} {s : St} {bs : List Nat} {va vs : Value} {cs : Array Value} (h : StAt w B tag g s bs va vs cs) (hB : B ≤ w.heap.size) {i b : Nat} {x : Tx} (hi : bs[i]? = some b) (hx : s.all[i]? = some x) {n : Nat} (hok : StOk s n) (hn : n ≤ 1000) (h3 : Ser3 s) (hs : ¬ x.state = 3) (e : Ev) (hf : formB e = true) (k1 : ¬ e.kind = 1) (k8 : ¬ e.kind = 8) (ht : e.tx = (i : Int) + 1) (p : Int) :
    Calls Tryd.prog 37 #[.pointer (some ⟨g, 0, none⟩), .pointer (some ⟨b, 0, none⟩), .agg #[.int .i64 e.kind, .int .i64 e.client, .int .i64 e.tx, .int .i64 e.table, .int .i64 e.row, .int .i64 e.mode, .int .i64 e.code], .int .i64 p] w fun r w' =>
      StepOf w w' B g (stepE s e p) (stepS s e p) r := by
  have ho := hok.tx i x hx
  have hc := form_code hf
  have h23 := form_23 hf
  obtain ⟨k, ec, ex, et, er, em, eq⟩ := e
  simp only at k1 k8 ht hc
  obtain rfl | rfl | rfl | rfl | rfl | rfl : k = 2 ∨ k = 3 ∨ k = 4 ∨ k = 5 ∨ k = 6 ∨ k = 7 := by omega
  · exact step2 h hB hi hx ec ex et er em eq p ht
  · exact step3 h hB hi hx ec ex et er em eq p ht ho hn (h23 (.inr rfl)).2.2.2
  · exact step4 h hB hi hx ec ex et er em eq p ht
  · exact step5 h hB hi hx ec ex et er em eq p ht
  · exact step6 h hB hi hx ec ex et er em eq p ht hok hn h3 hs
  · exact step7 h hB hi hx ec ex et er em eq p ht ho

theorem began_st {w : World} {B : Nat} {tag : Nat → Nat} {g : Nat} {s : St} {bs : List Nat} {va vs : Value} {cs : Array Value} (h : StAt w B tag g s bs va vs cs) (hB : B ≤ w.heap.size) {n : Nat} (hok : StOk s n) (hn : n ≤ 1000) (e : Ev) (hk : e.kind = 1) (hc : 1 ≤ e.client ∧ e.client ≤ 8) :
    Calls Tryd.prog 35 #[.pointer (some ⟨g, 0, none⟩), .agg #[.int .i64 e.kind, .int .i64 e.client, .int .i64 e.tx, .int .i64 e.table, .int .i64 e.row, .int .i64 e.mode, .int .i64 e.code]] w fun r w' =>
      StepOf w w' B g (if ¬ e.tx = s.all.length + 1 ∨ s.dead e.client.toNat = true ∨ s.now e.client.toNat = true then 11 else 0) ⟨s.all ++ [newTx e.client], s.dead, off s.now e.client true, s.serial⟩ r := by
  obtain ⟨k, ec, ex, et, er, em, eq⟩ := e
  simp only at hk hc
  subst hk
  obtain ⟨c, rfl⟩ := Int.eq_ofNat_of_zero_le (show 0 ≤ ec by omega)
  have hl := hok.len
  have hbl := h.lens
  obtain ⟨_, _, cp, _, ⟨A, hva⟩, hcp, _, _⟩ := own1_cell h.2.2.2.2.2.2.2.2.1
  have c0 := heap_cell h.1 (j := 0) h.2.2.1
  rw [hva] at c0
  have hd := heap_cell h.1 (j := 1 + c) (h.2.2.2.2.1 c (by omega))
  obtain ⟨p, hp1, hp2⟩ := h.2.2.2.2.2.1 c (by omega)
  have hp := heap_cell h.1 (j := 10 + c) hp1
  simp only [Int.toNat_natCast]
  by_cases hx : ex = (bs.length : Int) + 1
  · subst hx
    by_cases hdd : s.dead c = true
    · rw [hdd] at hd
      refine (began_bad2 g bs.length cp c A et er em eq w c0 hd (by omega) (by omega)).mono ?_
      rintro r w' ⟨rfl, hb⟩
      exact step_bad hb hB (if_pos (.inr (.inl hdd))) (by decide)
    · have hdf : s.dead c = false := by simpa using hdd
      by_cases hnn : s.now c = true
      · rw [hdf] at hd
        obtain ⟨a, rfl⟩ : ∃ a, p = some a := by
          rw [hnn] at hp2
          exact Option.isSome_iff_exists.1 hp2
        refine (began_bad3 g bs.length cp c A a et er em eq w c0 hd hp (by omega) (by omega)).mono ?_
        rintro r w' ⟨rfl, hb⟩
        exact step_bad hb hB (if_pos (.inr (.inr hnn))) (by decide)
      · have hnf : s.now c = false := by simpa using hnn
        have h0 : (if ¬ (bs.length : Int) + 1 = (s.all.length : Int) + 1 ∨ s.dead c = true ∨ s.now c = true then (11 : Int) else 0) = 0 := if_neg (by
          rintro (h | h | h)
          · exact h (by rw [hbl])
          · exact hdd h
          · exact hnn h)
        rw [h0]
        exact began_good B g c tag s bs va vs cs et er em eq w h hB (by omega) (by omega) hdf hnf
  · refine (began_bad1 g bs.length cp c A ex et er em eq w c0 (by omega) (by omega) hx).mono ?_
    rintro r w' ⟨rfl, hb⟩
    exact step_bad hb hB (by rw [if_pos (.inl (by rw [← hbl]; exact hx))]) (by decide)

theorem find_no {w : World} {B : Nat} {tag : Nat → Nat} {g : Nat} {s : St} {bs : List Nat} {va vs : Value} {cs : Array Value} (h : StAt w B tag g s bs va vs cs) (t : Int) (ht : (s.all.length : Int) < t) :
    Calls Tryd.prog 36 #[.pointer (some ⟨g, 0, none⟩), .int .i64 t] w fun e w' => e = .returned (.tuple #[.pointer none, .bool false]) ∧ Below w.heap.size w w' := by
  obtain ⟨_, _, cp, _, ⟨A, hva⟩, hcp, _, _⟩ := own1_cell h.2.2.2.2.2.2.2.2.1
  have c0 := heap_cell h.1 (j := 0) h.2.2.1
  rw [hva] at c0
  exact find_out g A bs.length cp t w c0 (by rw [h.lens]; exact ht)
theorem find_yes {w : World} {B : Nat} {tag : Nat → Nat} {g : Nat} {s : St} {bs : List Nat} {va vs : Value} {cs : Array Value} (h : StAt w B tag g s bs va vs cs) {i b : Nat} {x : Tx} (hi : bs[i]? = some b) (hx : s.all[i]? = some x) (hn : bs.length ≤ 100000) :
    Calls Tryd.prog 36 #[.pointer (some ⟨g, 0, none⟩), .int .i64 ((i : Int) + 1)] w fun e w' => e = .returned (.tuple #[.pointer (some ⟨b, 0, none⟩), .bool (decide (x.state ≠ 3))]) ∧ Below w.heap.size w w' := by
  have hil := (List.getElem?_eq_some_iff.1 hi).1
  obtain ⟨_, ga, cp, hva, _, hcp, _, hcell⟩ := own1_cell h.2.2.2.2.2.2.2.2.1
  have c0 := heap_cell h.1 (j := 0) h.2.2.1
  rw [(hva (by omega)).1] at c0
  obtain ⟨mb, v, h1, _⟩ := h.one hi hx
  exact find_in g ga bs.length cp i b x.state w c0 hn hil (hcell i _ (by unfold ptrV; rw [List.getElem?_map, hi]; rfl)) (heap_cell h1 rfl)

theorem next_bad {w : World} {B : Nat} {tag : Nat → Nat} {g : Nat} {s : St} {bs : List Nat} {va vs : Value} {cs : Array Value} (h : StAt w B tag g s bs va vs cs) (hB : B ≤ w.heap.size) (e : Ev) (hf : formB e = false) (p : Int) :
    Calls Tryd.prog 22 #[.pointer (some ⟨g, 0, none⟩), .agg #[.int .i64 e.kind, .int .i64 e.client, .int .i64 e.tx, .int .i64 e.table, .int .i64 e.row, .int .i64 e.mode, .int .i64 e.code], .int .i64 p] w fun r w' => StepOf w w' B g (nextE s e p) (nextS s e p) r := by
  obtain ⟨k, ec, ex, et, er, em, eq⟩ := e
  obtain ⟨w1, hw1⟩ : ∃ W, w.alloc (.cells #[.int .i64 k, .int .i64 ec, .int .i64 ex, .int .i64 et, .int .i64 er, .int .i64 em, .int .i64 eq] 43) = W := ⟨_, rfl⟩
  have hb1 : Below w.heap.size w w1 := by rw [← hw1]; exact (Below.refl _ _).alloc (Nat.le_refl _) _
  have he1 : w1.heap[w.heap.size]? = some (.cells #[.int .i64 k, .int .i64 ec, .int .i64 ex, .int .i64 et, .int .i64 er, .int .i64 em, .int .i64 eq] 43 (0, 0)) := by rw [← hw1, heap_push, if_pos rfl]
  have hs1 : w1.heap.size = w.heap.size + 1 := by rw [← hw1]; simp
  have HFM := Lib.hid (form_is ⟨k, ec, ex, et, er, em, eq⟩ w1 false hf)
  have HH := Lib.hid h
  have HW1 := Lib.hid hw1
  have HB1 := Lib.hid hb1
  have HE1 := Lib.hid he1
  have HF := Lib.hid hf
  have HZ1 := Lib.hid hs1
  clear h hw1 hb1 he1 hf hs1
  simp only
  go_enter Tryd.func22, Tryd.ntmps22
  go_wp2_with fail
  rw [HW1.out]
  refine HFM.out.mono ?_
  rintro r w2 ⟨rfl, hb2⟩
  have hB2 := HB1.out.trans (hb2.mono (by have := HZ1.out; omega))
  have he2 := (hb2.block w.heap.size (by have := HZ1.out; omega)).trans HE1.out
  have E0 := heap_cell he2 (j := 0) rfl
  have E1 := heap_cell he2 (j := 1) rfl
  have E2 := heap_cell he2 (j := 2) rfl
  have E3 := heap_cell he2 (j := 3) rfl
  have E4 := heap_cell he2 (j := 4) rfl
  have E5 := heap_cell he2 (j := 5) rfl
  have E6 := heap_cell he2 (j := 6) rfl
  have hs2 := hB2.size
  have HS2 := Lib.hid (HH.out.below hB2)
  have HB2 := Lib.hid hB2
  have HE2 := Lib.hid he2
  have hBw2 : B ≤ w2.heap.size := by omega
  clear hb2 hB2 he2 hs2
  go_wp2
  go_ret
  exact step_bad HB2.out hB (by unfold nextE; rw [if_pos HF.out]) (by decide)
set_option maxHeartbeats 2000000 in
theorem next_1 {w : World} {B : Nat} {tag : Nat → Nat} {g : Nat} {s : St} {bs : List Nat} {va vs : Value} {cs : Array Value} (h : StAt w B tag g s bs va vs cs) (hB : B ≤ w.heap.size) {n : Nat} (hok : StOk s n) (hn : n ≤ 1000) (e : Ev) (hf : formB e = true) (hk : e.kind = 1) (p : Int) :
    Calls Tryd.prog 22 #[.pointer (some ⟨g, 0, none⟩), .agg #[.int .i64 e.kind, .int .i64 e.client, .int .i64 e.tx, .int .i64 e.table, .int .i64 e.row, .int .i64 e.mode, .int .i64 e.code], .int .i64 p] w fun r w' => StepOf w w' B g (nextE s e p) (nextS s e p) r := by
  have h1 := form_1 hf hk
  have HOK := Lib.hid hok
  clear hok
  obtain ⟨k, ec, ex, et, er, em, eq⟩ := e
  obtain ⟨w1, hw1⟩ : ∃ W, w.alloc (.cells #[.int .i64 k, .int .i64 ec, .int .i64 ex, .int .i64 et, .int .i64 er, .int .i64 em, .int .i64 eq] 43) = W := ⟨_, rfl⟩
  have hb1 : Below w.heap.size w w1 := by rw [← hw1]; exact (Below.refl _ _).alloc (Nat.le_refl _) _
  have he1 : w1.heap[w.heap.size]? = some (.cells #[.int .i64 k, .int .i64 ec, .int .i64 ex, .int .i64 et, .int .i64 er, .int .i64 em, .int .i64 eq] 43 (0, 0)) := by rw [← hw1, heap_push, if_pos rfl]
  have hs1 : w1.heap.size = w.heap.size + 1 := by rw [← hw1]; simp
  have HFM := Lib.hid (form_is ⟨k, ec, ex, et, er, em, eq⟩ w1 true hf)
  have HH := Lib.hid h
  have HW1 := Lib.hid hw1
  have HB1 := Lib.hid hb1
  have HE1 := Lib.hid he1
  have HF := Lib.hid hf
  have HZ1 := Lib.hid hs1
  clear h hw1 hb1 he1 hf hs1
  simp only at hk h1 ⊢
  subst hk
  have HC1 := Lib.hid h1
  clear h1
  go_enter Tryd.func22, Tryd.ntmps22
  go_wp2_with fail
  rw [HW1.out]
  refine HFM.out.mono ?_
  rintro r w2 ⟨rfl, hb2⟩
  have hB2 := HB1.out.trans (hb2.mono (by have := HZ1.out; omega))
  have he2 := (hb2.block w.heap.size (by have := HZ1.out; omega)).trans HE1.out
  have E0 := heap_cell he2 (j := 0) rfl
  have E1 := heap_cell he2 (j := 1) rfl
  have E2 := heap_cell he2 (j := 2) rfl
  have E3 := heap_cell he2 (j := 3) rfl
  have E4 := heap_cell he2 (j := 4) rfl
  have E5 := heap_cell he2 (j := 5) rfl
  have E6 := heap_cell he2 (j := 6) rfl
  have hs2 := hB2.size
  have HS2 := Lib.hid (HH.out.below hB2)
  have HB2 := Lib.hid hB2
  have HE2 := Lib.hid he2
  have hBw2 : B ≤ w2.heap.size := by omega
  clear hb2 hB2 he2 hs2
  have HC := Lib.hid (began_st HS2.out hBw2 HOK.out hn ⟨1, ec, ex, et, er, em, eq⟩ rfl ⟨HC1.out.1, HC1.out.2.1⟩)
  have hE : (if ¬ (⟨1, ec, ex, et, er, em, eq⟩ : Ev).tx = s.all.length + 1 ∨ s.dead (⟨1, ec, ex, et, er, em, eq⟩ : Ev).client.toNat = true ∨ s.now (⟨1, ec, ex, et, er, em, eq⟩ : Ev).client.toNat = true then (11 : Int) else 0) = nextE s ⟨1, ec, ex, et, er, em, eq⟩ p := by
    symm
    unfold nextE
    rw [if_neg (show ¬ formB ⟨1, ec, ex, et, er, em, eq⟩ = false by rw [HF.out]; decide), if_pos (show (⟨1, ec, ex, et, er, em, eq⟩ : Ev).kind = 1 from rfl)]
  rw [hE] at HC
  obtain ⟨kk, hkk⟩ : ∃ kk : Int, nextE s ⟨1, ec, ex, et, er, em, eq⟩ p = kk := ⟨_, rfl⟩
  rw [hkk] at HC
  have HKK := Lib.hid hkk
  clear hkk hE
  go_wp2_with (go_at_call 35; refine HC.out.mono ?_; rintro r w5 ⟨rfl, hb5, hs5⟩)
  go_ret
  rw [HKK.out]
  exact ⟨rfl, (HB2.out.mono hB).trans hb5, hs5⟩
set_option maxHeartbeats 2000000 in
theorem next_8 {w : World} {B : Nat} {tag : Nat → Nat} {g : Nat} {s : St} {bs : List Nat} {va vs : Value} {cs : Array Value} (h : StAt w B tag g s bs va vs cs) (hB : B ≤ w.heap.size) (e : Ev) (hf : formB e = true) (hk : e.kind = 8) (p : Int) :
    Calls Tryd.prog 22 #[.pointer (some ⟨g, 0, none⟩), .agg #[.int .i64 e.kind, .int .i64 e.client, .int .i64 e.tx, .int .i64 e.table, .int .i64 e.row, .int .i64 e.mode, .int .i64 e.code], .int .i64 p] w fun r w' => StepOf w w' B g (nextE s e p) (nextS s e p) r := by
  have h1 := form_8 hf hk
  obtain ⟨k, ec, ex, et, er, em, eq⟩ := e
  obtain ⟨w1, hw1⟩ : ∃ W, w.alloc (.cells #[.int .i64 k, .int .i64 ec, .int .i64 ex, .int .i64 et, .int .i64 er, .int .i64 em, .int .i64 eq] 43) = W := ⟨_, rfl⟩
  have hb1 : Below w.heap.size w w1 := by rw [← hw1]; exact (Below.refl _ _).alloc (Nat.le_refl _) _
  have he1 : w1.heap[w.heap.size]? = some (.cells #[.int .i64 k, .int .i64 ec, .int .i64 ex, .int .i64 et, .int .i64 er, .int .i64 em, .int .i64 eq] 43 (0, 0)) := by rw [← hw1, heap_push, if_pos rfl]
  have hs1 : w1.heap.size = w.heap.size + 1 := by rw [← hw1]; simp
  have HFM := Lib.hid (form_is ⟨k, ec, ex, et, er, em, eq⟩ w1 true hf)
  have HH := Lib.hid h
  have HW1 := Lib.hid hw1
  have HB1 := Lib.hid hb1
  have HE1 := Lib.hid he1
  have HF := Lib.hid hf
  have HZ1 := Lib.hid hs1
  clear h hw1 hb1 he1 hf hs1
  simp only at hk h1 ⊢
  subst hk
  obtain ⟨c, rfl⟩ := Int.eq_ofNat_of_zero_le (show 0 ≤ ec by omega)
  have hc8 : c ≤ 8 := by omega
  have k2 : (c : Int) < 9 := by omega
  have k3 : ¬ (c : Int) < 0 := by omega
  clear h1
  go_enter Tryd.func22, Tryd.ntmps22
  go_wp2_with fail
  rw [HW1.out]
  refine HFM.out.mono ?_
  rintro r w2 ⟨rfl, hb2⟩
  have hB2 := HB1.out.trans (hb2.mono (by have := HZ1.out; omega))
  have he2 := (hb2.block w.heap.size (by have := HZ1.out; omega)).trans HE1.out
  have E0 := heap_cell he2 (j := 0) rfl
  have E1 := heap_cell he2 (j := 1) rfl
  have E2 := heap_cell he2 (j := 2) rfl
  have E3 := heap_cell he2 (j := 3) rfl
  have E4 := heap_cell he2 (j := 4) rfl
  have E5 := heap_cell he2 (j := 5) rfl
  have E6 := heap_cell he2 (j := 6) rfl
  have hs2 := hB2.size
  have HS2 := Lib.hid (HH.out.below hB2)
  have HB2 := Lib.hid hB2
  have HE2 := Lib.hid he2
  have hBw2 : B ≤ w2.heap.size := by omega
  clear hb2 hB2 he2 hs2
  have hdc := heap_cell HS2.out.1 (j := 1 + c) (HS2.out.2.2.2.2.1 c (by omega))
  cases hdd : s.dead c with
  | true =>
    rw [hdd] at hdc
    have HDD := Lib.hid hdd
    clear hdd
    go_wp2
    go_quiet (fail)
    go_wp2
    go_ret
    refine step_bad (below_drewN HB2.out _) hB ?_ (by decide)
    unfold nextE
    rw [if_neg (by rw [HF.out]; decide), if_neg (by simp), if_pos (by simp)]
    simp [HDD.out]
  | false =>
    rw [hdd] at hdc
    have HDD := Lib.hid hdd
    clear hdd
    go_wp2
    go_quiet (fail)
    go_wp2_with fail
    generalize hw3 : World.drewN w2 _ = w3
    have hh3 : w3.heap = w2.heap := by rw [← hw3]; rfl
    have hb3 : Below B w w3 := by rw [← hw3]; exact (below_drewN HB2.out _).mono hB
    have hS3 := HS2.out.same (w' := w3) (fun k _ => by rw [hh3])
    have d1 : w3.cell? ⟨w.heap.size, 1, none⟩ = some (.int .i64 c) := by rw [← hw3]; exact E1
    have dc : w3.cell? ⟨g, 1 + c, none⟩ = some (.bool false) := by rw [← hw3]; exact hdc
    have df := heap_free hS3.1 (j := 1 + c)
    have HS3 := Lib.hid hS3
    have HB3 := Lib.hid hb3
    have HGB := Lib.hid HH.out.gB
    clear hw3 hh3 hb3 hS3 E0 E1 E2 E3 E4 E5 E6 hdc
    go_region
    go_wp2
    go_ret
    refine step_ok (tag := tag) ((HB3.out.setCell HGB.out _).trans ⟨rfl, rfl, rfl, Nat.le_refl _, fun _ _ => rfl⟩) ?_ ?_
    · unfold nextE
      rw [if_neg (by rw [HF.out]; decide), if_neg (by simp), if_pos (by simp)]
      simp [HDD.out]
    · unfold nextS
      rw [if_neg (by simp), if_pos (by simp)]
      exact ⟨bs, va, vs, _, (HS3.out.setDead c (by omega) true).same (fun k _ => rfl)⟩
set_option maxHeartbeats 2000000 in
theorem next_t {w : World} {B : Nat} {tag : Nat → Nat} {g : Nat} {s : St} {bs : List Nat} {va vs : Value} {cs : Array Value} (h : StAt w B tag g s bs va vs cs) (hB : B ≤ w.heap.size) {n : Nat} (hok : StOk s n) (hn : n ≤ 1000) (h3 : Ser3 s) (e : Ev) (hf : formB e = true) (k1 : ¬ e.kind = 1) (k8 : ¬ e.kind = 8) (p : Int) :
    Calls Tryd.prog 22 #[.pointer (some ⟨g, 0, none⟩), .agg #[.int .i64 e.kind, .int .i64 e.client, .int .i64 e.tx, .int .i64 e.table, .int .i64 e.row, .int .i64 e.mode, .int .i64 e.code], .int .i64 p] w fun r w' => StepOf w w' B g (nextE s e p) (nextS s e p) r := by
  have hE : nextE s e p = if (s.all.length : Int) < e.tx ∨ (s.tx e.tx).state = 3 then 11 else stepE s e p := by
    unfold nextE; rw [if_neg (by rw [hf]; decide), if_neg k1, if_neg k8]
  have hS : nextS s e p = stepS s e p := by unfold nextS; rw [if_neg k1, if_neg k8]
  have ht1 := form_tx hf k8
  rw [hE, hS]
  have HK1 := Lib.hid k1
  have HK8 := Lib.hid k8
  have HOK := Lib.hid hok
  have H3 := Lib.hid h3
  clear hE hS hok h3
  obtain ⟨k, ec, ex, et, er, em, eq⟩ := e
  obtain ⟨w1, hw1⟩ : ∃ W, w.alloc (.cells #[.int .i64 k, .int .i64 ec, .int .i64 ex, .int .i64 et, .int .i64 er, .int .i64 em, .int .i64 eq] 43) = W := ⟨_, rfl⟩
  have hb1 : Below w.heap.size w w1 := by rw [← hw1]; exact (Below.refl _ _).alloc (Nat.le_refl _) _
  have he1 : w1.heap[w.heap.size]? = some (.cells #[.int .i64 k, .int .i64 ec, .int .i64 ex, .int .i64 et, .int .i64 er, .int .i64 em, .int .i64 eq] 43 (0, 0)) := by rw [← hw1, heap_push, if_pos rfl]
  have hs1 : w1.heap.size = w.heap.size + 1 := by rw [← hw1]; simp
  have HFM := Lib.hid (form_is ⟨k, ec, ex, et, er, em, eq⟩ w1 true hf)
  have HH := Lib.hid h
  have HW1 := Lib.hid hw1
  have HB1 := Lib.hid hb1
  have HE1 := Lib.hid he1
  have HF := Lib.hid hf
  have HZ1 := Lib.hid hs1
  clear h hw1 hb1 he1 hf hs1
  simp only at k1 k8 ht1 ⊢
  have kb1 : (k == 1) = false := by simpa using k1
  have kb8 : (k == 8) = false := by simpa using k8
  clear k1 k8
  by_cases hlen : (s.all.length : Int) < ex
  · have HL := Lib.hid hlen
    have HN : Hid ((if (s.all.length : Int) < ex ∨ (s.tx ex).state = 3 then (11 : Int) else stepE s ⟨k, ec, ex, et, er, em, eq⟩ p) = 11) := Lib.hid (if_pos (.inl hlen))
    clear hlen ht1
    rw [HN.out]
    go_enter Tryd.func22, Tryd.ntmps22
    go_wp2_with fail
    rw [HW1.out]
    refine HFM.out.mono ?_
    rintro r w2 ⟨rfl, hb2⟩
    have hB2 := HB1.out.trans (hb2.mono (by have := HZ1.out; omega))
    have he2 := (hb2.block w.heap.size (by have := HZ1.out; omega)).trans HE1.out
    have E0 := heap_cell he2 (j := 0) rfl
    have E1 := heap_cell he2 (j := 1) rfl
    have E2 := heap_cell he2 (j := 2) rfl
    have E3 := heap_cell he2 (j := 3) rfl
    have E4 := heap_cell he2 (j := 4) rfl
    have E5 := heap_cell he2 (j := 5) rfl
    have E6 := heap_cell he2 (j := 6) rfl
    have hs2 := hB2.size
    have HS2 := Lib.hid (HH.out.below hB2)
    have HB2 := Lib.hid hB2
    have HE2 := Lib.hid he2
    have hBw2 : B ≤ w2.heap.size := by omega
    clear hb2 hB2 he2 hs2
    have HC := Lib.hid (find_no HS2.out ex HL.out)
    go_wp2_with (go_at_call 36; refine HC.out.mono ?_; rintro r w5 ⟨rfl, hb5⟩)
    go_ret
    exact step_bad (HB2.out.trans (hb5.mono HB2.out.size)) hB rfl (by decide)
  · obtain ⟨i, hi⟩ : ∃ i : Nat, ex = (i : Int) + 1 := ⟨(ex - 1).toNat, by omega⟩
    subst hi
    have hbl := HH.out.lens
    have hil : i < s.all.length := by omega
    obtain ⟨x, hx⟩ : ∃ x, s.all[i]? = some x := ⟨_, List.getElem?_eq_getElem hil⟩
    obtain ⟨b, hb⟩ : ∃ b, bs[i]? = some b := ⟨_, List.getElem?_eq_getElem (by omega)⟩
    have hTx := tx_is hx rfl
    have hbn : bs.length ≤ 100000 := by have := HOK.out.len; omega
    have HX := Lib.hid hx
    have HBI := Lib.hid hb
    have HBN := Lib.hid hbn
    have HTX := Lib.hid hTx
    have HNL := Lib.hid hlen
    clear hbl hil hx hb hTx hbn hlen ht1
    by_cases hs : x.state = 3
    · have HS := Lib.hid hs
      clear hs
      have HN : Hid ((if (s.all.length : Int) < (i : Int) + 1 ∨ (s.tx ((i : Int) + 1)).state = 3 then (11 : Int) else stepE s ⟨k, ec, (i : Int) + 1, et, er, em, eq⟩ p) = 11) := Lib.hid (if_pos (.inr (by rw [HTX.out]; exact HS.out)))
      rw [HN.out]
      go_enter Tryd.func22, Tryd.ntmps22
      go_wp2_with fail
      rw [HW1.out]
      refine HFM.out.mono ?_
      rintro r w2 ⟨rfl, hb2⟩
      have hB2 := HB1.out.trans (hb2.mono (by have := HZ1.out; omega))
      have he2 := (hb2.block w.heap.size (by have := HZ1.out; omega)).trans HE1.out
      have E0 := heap_cell he2 (j := 0) rfl
      have E1 := heap_cell he2 (j := 1) rfl
      have E2 := heap_cell he2 (j := 2) rfl
      have E3 := heap_cell he2 (j := 3) rfl
      have E4 := heap_cell he2 (j := 4) rfl
      have E5 := heap_cell he2 (j := 5) rfl
      have E6 := heap_cell he2 (j := 6) rfl
      have hs2 := hB2.size
      have HS2 := Lib.hid (HH.out.below hB2)
      have HB2 := Lib.hid hB2
      have HE2 := Lib.hid he2
      have hBw2 : B ≤ w2.heap.size := by omega
      clear hb2 hB2 he2 hs2
      have HC := Lib.hid (find_yes HS2.out HBI.out HX.out HBN.out)
      rw [show decide (x.state ≠ 3) = false by simp [HS.out]] at HC
      go_wp2_with (go_at_call 36; refine HC.out.mono ?_; rintro r w5 ⟨rfl, hb5⟩)
      go_ret
      exact step_bad (HB2.out.trans (hb5.mono HB2.out.size)) hB rfl (by decide)
    · have HS := Lib.hid hs
      clear hs
      have HN : Hid ((if (s.all.length : Int) < (i : Int) + 1 ∨ (s.tx ((i : Int) + 1)).state = 3 then (11 : Int) else stepE s ⟨k, ec, (i : Int) + 1, et, er, em, eq⟩ p) = stepE s ⟨k, ec, (i : Int) + 1, et, er, em, eq⟩ p) := Lib.hid (if_neg (by rw [HTX.out]; rintro (h | h); exact HNL.out h; exact HS.out h))
      rw [HN.out]
      obtain ⟨kk, hkk⟩ : ∃ kk : Int, stepE s ⟨k, ec, (i : Int) + 1, et, er, em, eq⟩ p = kk := ⟨_, rfl⟩
      have HKK := Lib.hid hkk
      rw [hkk]
      clear hkk
      go_enter Tryd.func22, Tryd.ntmps22
      go_wp2_with fail
      rw [HW1.out]
      refine HFM.out.mono ?_
      rintro r w2 ⟨rfl, hb2⟩
      have hB2 := HB1.out.trans (hb2.mono (by have := HZ1.out; omega))
      have he2 := (hb2.block w.heap.size (by have := HZ1.out; omega)).trans HE1.out
      have E0 := heap_cell he2 (j := 0) rfl
      have E1 := heap_cell he2 (j := 1) rfl
      have E2 := heap_cell he2 (j := 2) rfl
      have E3 := heap_cell he2 (j := 3) rfl
      have E4 := heap_cell he2 (j := 4) rfl
      have E5 := heap_cell he2 (j := 5) rfl
      have E6 := heap_cell he2 (j := 6) rfl
      have hs2 := hB2.size
      have HS2 := Lib.hid (HH.out.below hB2)
      have HB2 := Lib.hid hB2
      have HE2 := Lib.hid he2
      have hBw2 : B ≤ w2.heap.size := by omega
      clear hb2 hB2 he2 hs2
      have HC := Lib.hid (find_yes HS2.out HBI.out HX.out HBN.out)
      rw [show decide (x.state ≠ 3) = true by simp [HS.out]] at HC
      go_wp2_with fail
      refine HC.out.mono ?_
      rintro r w5 ⟨rfl, hb5⟩
      have hB5 := HB2.out.trans (hb5.mono HB2.out.size)
      have he5 := (hb5.block w.heap.size (lt_of_block HE2.out)).trans HE2.out
      have F0 := heap_cell he5 (j := 0) rfl
      have F1 := heap_cell he5 (j := 1) rfl
      have F2 := heap_cell he5 (j := 2) rfl
      have F3 := heap_cell he5 (j := 3) rfl
      have F4 := heap_cell he5 (j := 4) rfl
      have F5 := heap_cell he5 (j := 5) rfl
      have F6 := heap_cell he5 (j := 6) rfl
      have HB5 := Lib.hid hB5
      have HC2 := Lib.hid (step_st (HS2.out.below hb5) (by have := hB5.size; omega) HBI.out HX.out HOK.out hn H3.out HS.out ⟨k, ec, (i : Int) + 1, et, er, em, eq⟩ HF.out HK1.out HK8.out rfl p)
      rw [HKK.out] at HC2
      clear hB5 he5 hb5 HC
      go_wp2_with (go_at_call 37; refine HC2.out.mono ?_; rintro r w6 ⟨rfl, hb6, hs6⟩)
      go_ret
      exact ⟨rfl, (HB5.out.mono hB).trans hb6, hs6⟩
theorem next_st {w : World} {B : Nat} {tag : Nat → Nat} {g : Nat} {s : St} {bs : List Nat} {va vs : Value} {cs : Array Value} (h : StAt w B tag g s bs va vs cs) (hB : B ≤ w.heap.size) {n : Nat} (hok : StOk s n) (hn : n ≤ 1000) (h3 : Ser3 s) (e : Ev) (p : Int) :
    Calls Tryd.prog 22 #[.pointer (some ⟨g, 0, none⟩), .agg #[.int .i64 e.kind, .int .i64 e.client, .int .i64 e.tx, .int .i64 e.table, .int .i64 e.row, .int .i64 e.mode, .int .i64 e.code], .int .i64 p] w fun r w' => StepOf w w' B g (nextE s e p) (nextS s e p) r := by
  cases hf : formB e with
  | false => exact next_bad h hB e hf p
  | true =>
    by_cases k1 : e.kind = 1
    · exact next_1 h hB hok hn e hf k1 p
    · by_cases k8 : e.kind = 8
      · exact next_8 h hB e hf k8 p
      · exact next_t h hB hok hn h3 e hf k1 k8 p
end Go.Proofs.YtggkohkngockoaaDoor

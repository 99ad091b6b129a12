/-
  The model's step. No conditions beyond those that each theorem states.
-/
import Derived.Test.YtjpjlfjaapfnkaaGreatDoorDMH
set_option linter.unusedVariables false
set_option linter.unusedSimpArgs false
namespace Go.Proofs.YtjpjlfjaapfnkaaGreatDoor.C20
open Go.ChangeShapes Go.WideShapes Go.ChangeAt Go.RowKit Go.Maps
theorem StAt.storeB {w w' : World} {B : Nat} {tag : Nat → Nat} {g : Nat} {s : St} {bs : List Nat} {va vs : Value} {cs : Array Value} (h : StAt w B tag g s bs va vs cs) {i b : Nat} {x y : Tx} (hi : bs[i]? = some b) (hx : s.all[i]? = some x)
 (hk : ∀ k, k ≠ b → w'.heap[k]? = w.heap[k]?) (hy : ∀ mb v, w.heap[b]? = some (.cells (oneC x mb v) 223 (0, 0)) → w'.heap[b]? = some (.cells (oneC y mb v) 223 (0, 0))) (hg : y.got = x.got) : StAt w' B tag g ⟨s.all.set i y, s.dead, s.now, s.serial⟩ bs va vs cs := by
 obtain ⟨mb, v, h1, h2, h3, hr⟩ := h.one hi hx
 refine h.put hi (fun k hk' ht => ⟨hk k (fun e => ht (by rw [e]; exact hr.2.2.2.2.2.1)), rfl⟩) ?_
 exact TxAt.set h2 h3 hr (fun k _ hne => hk k hne) (hy mb v h1) hg
theorem stepS_2 {s : St} {i : Nat} {x : Tx} {ec ex et er em eq p : Int} (hT : s.tx ex = x) (ht : ex = (i : Int) + 1) : stepS s ⟨2, ec, ex, et, er, em, eq⟩ p = ⟨s.all.set i { x with asked := true, opn := true, table := et, row := er, mode := em }, s.dead, s.now, s.serial⟩ := by
 subst ht; unfold stepS St.put; simp [hT]
theorem stepS_3 {s : St} {i : Nat} {x : Tx} {ec ex et er em eq p : Int} (hT : s.tx ex = x) (ht : ex = (i : Int) + 1) : stepS s ⟨3, ec, ex, et, er, em, eq⟩ p = ⟨s.all.set i (x.grant ⟨3, ec, ex, et, er, em, eq⟩ p), s.dead, s.now, s.serial⟩ := by
 subst ht; unfold stepS St.put; simp [hT]
theorem stepS_4 {s : St} {i : Nat} {x : Tx} {ec ex et er em eq p : Int} (hT : s.tx ex = x) (ht : ex = (i : Int) + 1) : stepS s ⟨4, ec, ex, et, er, em, eq⟩ p = ⟨s.all.set i { x with opn := false }, s.dead, s.now, s.serial⟩ := by
 subst ht; unfold stepS St.put; simp [hT]
theorem stepS_5 {s : St} {i : Nat} {x : Tx} {ec ex et er em eq p : Int} (hT : s.tx ex = x) (ht : ex = (i : Int) + 1) : stepS s ⟨5, ec, ex, et, er, em, eq⟩ p = ⟨s.all.set i { x with state := 2 }, s.dead, s.now, s.serial⟩ := by
 subst ht; unfold stepS St.put; simp [hT]
theorem stepS_6 {s : St} {i : Nat} {x : Tx} {ec ex et er em eq p : Int} (hT : s.tx ex = x) (ht : ex = (i : Int) + 1) : stepS s ⟨6, ec, ex, et, er, em, eq⟩ p = ⟨s.all.set i { x with fin := p, state := 3 }, s.dead, off s.now x.client false, s.serial ++ [ex]⟩ := by
 subst ht; unfold stepS St.over; simp [hT]
theorem stepS_7 {s : St} {i : Nat} {x : Tx} {ec ex et er em eq p : Int} (hT : s.tx ex = x) (ht : ex = (i : Int) + 1) : stepS s ⟨7, ec, ex, et, er, em, eq⟩ p = ⟨s.all.set i { x with state := 3 }, s.dead, off s.now x.client false, s.serial⟩ := by
 subst ht; unfold stepS St.over; simp [hT]
theorem tx_is {s : St} {i : Nat} {x : Tx} {t : Int} (h : s.all[i]? = some x) (ht : t = (i : Int) + 1) : s.tx t = x := by
 unfold St.tx
 rw [List.getD_eq_getElem?_getD, ht, show ((i : Int) + 1 - 1).toNat = i by omega, h]
 rfl
theorem any_same {α : Type} {l : List α} {p q : α → Bool} (h : ∀ a ∈ l, p a = q a) : l.any p = l.any q := by
 induction l with
 | nil => rfl
 | cons a r ih => rw [List.any_cons, List.any_cons, h a (by simp), ih (fun b hb => h b (by simp [hb]))]
def Ser3 (s : St) : Prop := ∀ k ∈ s.serial, 1 ≤ k ∧ (s.tx k).state = 3
theorem commE_is {s : St} {i : Nat} {x : Tx} {p : Int} (h3 : Ser3 s) (hx : s.all[i]? = some x) (hs : ¬ x.state = 3) : commE s i x p = if (s.serial.any fun n => clashB { x with fin := p } (s.tx n)) = true then 8 else 0 := by
 have : (s.serial.any fun n => clashB { x with fin := p } (St.tx ⟨s.all.set i { x with fin := p }, s.dead, s.now, s.serial⟩ n)) = (s.serial.any fun n => clashB { x with fin := p } (s.tx n)) := by
  refine any_same fun n hn => ?_
  obtain ⟨h1, h2⟩ := h3 n hn
  have hne : (n - 1).toNat ≠ i := fun e => by
   apply hs
   rw [← h2, tx_is hx (show n = (i : Int) + 1 by omega)]
  have : St.tx ⟨s.all.set i { x with fin := p }, s.dead, s.now, s.serial⟩ n = s.tx n := by
   unfold St.tx
   simp only [List.getD_eq_getElem?_getD, List.getElem?_set]
   rw [if_neg (fun e => hne e.symm)]
  rw [this]
 unfold commE
 rw [this]
theorem comm_st {w : World} {B : Nat} {tag : Nat → Nat} {g : Nat} {s : St} {bs : List Nat} {va vs : Value} {cs : Array Value} (h : StAt w B tag g s bs va vs cs) (hB : B ≤ w.heap.size) {i b : Nat} {x : Tx} (hi : bs[i]? = some b) (hx : s.all[i]? = some x) {n : Nat} (hok : StOk s n) (hn : n ≤ 1000) (h3 : Ser3 s) (hs : ¬ x.state = 3) (ec ex et er em eq p : Int) (ht : ex = (i : Int) + 1) :
 Calls Tryz.prog 145 #[.pointer (some ⟨g, 0, none⟩), .pointer (some ⟨b, 0, none⟩), .agg #[.int .i64 6, .int .i64 ec, .int .i64 ex, .int .i64 et, .int .i64 er, .int .i64 em, .int .i64 eq], .int .i64 p] w fun r w' =>
  StepOf w w' B g (stepE s ⟨6, ec, ex, et, er, em, eq⟩ p) (stepS s ⟨6, ec, ex, et, er, em, eq⟩ p) r := by
 have hT := tx_is hx ht
 rw [stepS_6 hT ht]
 by_cases ho : x.opn = true
 ·refine (comm_bad1 h hi hx 6 ec ex et er em eq p ho).mono ?_
  rintro r w' ⟨rfl, hb⟩
  exact step_bad hb hB (by unfold stepE; simp [hT, ho]) (by decide)
 ·have ho' : x.opn = false := by simpa using ho
  by_cases hq : ¬ x.state = 2 ∧ x.asked = true
  ·refine (comm_bad2 h hi hx 6 ec ex et er em eq p ho' hq.1 hq.2).mono ?_
   rintro r w' ⟨rfl, hb⟩
   exact step_bad hb hB (by unfold stepE; simp [hT, hq.1, hq.2]) (by decide)
  ·have hq' : x.state = 2 ∨ x.asked = false := by
    by_cases h2 : x.state = 2
    ·exact .inl h2
    ·right
     cases ha : x.asked with
     | false => rfl
     | true => exact absurd ⟨h2, ha⟩ hq
   have hE : stepE s ⟨6, ec, ex, et, er, em, eq⟩ p = commE s i x p := by
    rw [commE_is h3 hx hs]
    unfold stepE
    simp only [hT]
    rw [if_neg (by decide), if_neg (by decide), if_neg (by decide), if_neg (by decide), if_pos trivial, if_neg (by rintro (h | h); exact ho h; exact hq h)]
   rw [hE]
   exact comm_go h hB hi hx (hok.tx i x hx) hok hn 6 ec ex et er em eq p ho' hq'
set_option maxRecDepth 100000 in
set_option maxHeartbeats 4000000 in
theorem step2 {w : World} {B : Nat} {tag : Nat → Nat} {g : Nat} {s : St} {bs : List Nat} {va vs : Value} {cs : Array Value} (h : StAt w B tag g s bs va vs cs) (hB : B ≤ w.heap.size) {i b : Nat} {x : Tx} (hi : bs[i]? = some b) (hx : s.all[i]? = some x) (ec ex et er em eq p : Int) (ht : ex = (i : Int) + 1) :
 Calls Tryz.prog 133 #[.pointer (some ⟨g, 0, none⟩), .pointer (some ⟨b, 0, none⟩), .agg #[.int .i64 2, .int .i64 ec, .int .i64 ex, .int .i64 et, .int .i64 er, .int .i64 em, .int .i64 eq], .int .i64 p] w fun r w' =>
  StepOf w w' B g (stepE s ⟨2, ec, ex, et, er, em, eq⟩ p) (stepS s ⟨2, ec, ex, et, er, em, eq⟩ p) r := by
 have HT := Lib.hid (tx_is hx ht)
 have HTX := Lib.hid ht
 clear ht
 obtain ⟨mb, A, c1, lb, c0, _, c2, c3, c4, c5, c6, c7, _⟩ := (h.one hi hx).at
 have hf : ∀ j, w.frozen? ⟨b, j, none⟩ = false := by obtain ⟨_, _, h1, _⟩ := h.one hi hx; exact fun j => heap_free h1
 have nb : ¬ b = w.heap.size := by omega
 have nb' : ¬ w.heap.size = b := by omega
 obtain ⟨w1, hw1⟩ : ∃ W, w.alloc (.cells #[.int .i64 2, .int .i64 ec, .int .i64 ex, .int .i64 et, .int .i64 er, .int .i64 em, .int .i64 eq] 44) = W := ⟨_, rfl⟩
 have hb1 : Below w.heap.size w w1 := by rw [← hw1]; exact (Below.refl _ _).alloc (Nat.le_refl _) _
 have hs1 : w1.heap.size = w.heap.size + 1 := by rw [← hw1]; simp
 have he1 : w1.heap[w.heap.size]? = some (.cells #[.int .i64 2, .int .i64 ec, .int .i64 ex, .int .i64 et, .int .i64 er, .int .i64 em, .int .i64 eq] 44 (0, 0)) := by rw [← hw1, heap_push, if_pos rfl]
 have hst1 := h.below hb1
 have E3 := heap_cell he1 (j := 3) (u := .int .i64 et) rfl
 have E4 := heap_cell he1 (j := 4) (u := .int .i64 er) rfl
 have HW1 := Lib.hid hw1
 have HI := Lib.hid hi
 have HX := Lib.hid hx
 have HST := Lib.hid hst1
 have HB1 := Lib.hid hb1
 have HSZ := Lib.hid hs1
 have HEX := Lib.hid he1
 have HF := Lib.hid hf
 have HNE := Lib.hid (h.ne hi hx)
 have HH := Lib.hid h
 have H4 := Lib.hid c4
 have H5 := Lib.hid c5
 obtain ⟨st, hst⟩ : ∃ v, x.state = v := ⟨_, rfl⟩
 obtain ⟨op, hop⟩ : ∃ v, x.opn = v := ⟨_, rfl⟩
 obtain ⟨ak, hak⟩ : ∃ v, x.asked = v := ⟨_, rfl⟩
 obtain ⟨xt, hxt⟩ : ∃ v, x.table = v := ⟨_, rfl⟩
 obtain ⟨xr, hxr⟩ : ∃ v, x.row = v := ⟨_, rfl⟩
 rw [hst] at c0
 rw [hop] at c4
 rw [hak] at c3
 rw [hxt] at c5
 rw [hxr] at c6
 have HO := Lib.hid hop
 have HAK := Lib.hid hak
 have HSTT := Lib.hid hst
 have HXT := Lib.hid hxt
 have HXR := Lib.hid hxr
 clear hw1 hb1 hs1 he1 hst1 hi hx hf h hst hop hak hxt hxr
 by_cases hst : st = 1
 ·subst hst
  cases op with
  | false =>
   go_enter Tryz.func133, Tryz.ntmps133
   go_wp2_with fail
   rw [HW1.out]
   replace c0 := cell_keep HB1.out c0
   replace c3 := cell_keep HB1.out c3
   replace c4 := cell_keep HB1.out c4
   replace c5 := cell_keep HB1.out c5
   replace c6 := cell_keep HB1.out c6
   replace c7 := cell_keep HB1.out c7
   go_quiet (fail)
   generalize hw2 : World.drewN w1 nq = w2
   have hh2 : w2.heap = w1.heap := by rw [← hw2]; rfl
   have hb2 : Below w.heap.size w w2 := by rw [← hw2]; exact below_drewN HB1.out nq
   have HS2 : Hid (StAt w2 B tag g s bs va vs cs) := Lib.hid (HST.out.same (fun k _ => by rw [hh2]))
   have HZ2 : Hid (w2.heap.size = w.heap.size + 1) := Lib.hid (by rw [hh2]; exact HSZ.out)
   have he2 := HEX.out
   rw [← hh2] at he2
   replace E3 := heap_cell he2 (j := 3) rfl
   replace E4 := heap_cell he2 (j := 4) rfl
   have E0 := heap_cell he2 (j := 0) rfl
   have E1 := heap_cell he2 (j := 1) rfl
   have E2 := heap_cell he2 (j := 2) rfl
   have E5 := heap_cell he2 (j := 5) rfl
   have E6 := heap_cell he2 (j := 6) rfl
   have d0 := (show w2.cell? ⟨b, 0, none⟩ = w1.cell? ⟨b, 0, none⟩ by rw [← hw2]; rfl).trans c0
   have d3 := (show w2.cell? ⟨b, 3, none⟩ = w1.cell? ⟨b, 3, none⟩ by rw [← hw2]; rfl).trans c3
   have d4 := (show w2.cell? ⟨b, 4, none⟩ = w1.cell? ⟨b, 4, none⟩ by rw [← hw2]; rfl).trans c4
   have d5 := (show w2.cell? ⟨b, 5, none⟩ = w1.cell? ⟨b, 5, none⟩ by rw [← hw2]; rfl).trans c5
   have d6 := (show w2.cell? ⟨b, 6, none⟩ = w1.cell? ⟨b, 6, none⟩ by rw [← hw2]; rfl).trans c6
   have d7 := (show w2.cell? ⟨b, 7, none⟩ = w1.cell? ⟨b, 7, none⟩ by rw [← hw2]; rfl).trans c7
   have HB2 := Lib.hid hb2
   have HB2' : Hid (Below B w w2) := Lib.hid (hb2.mono hB)
   have HE2 := Lib.hid he2
   clear hw2 hh2 hb2 he2 c0 c3 c4 c5 c6
   go_wp2_with fail
   have f3 := (HB2.out.frozen (p := ⟨b, 3, none⟩) HNE.out.2.2).trans (HF.out 3)
   have f4 := (HB2.out.frozen (p := ⟨b, 4, none⟩) HNE.out.2.2).trans (HF.out 4)
   have f5 := (HB2.out.frozen (p := ⟨b, 5, none⟩) HNE.out.2.2).trans (HF.out 5)
   have f6 := (HB2.out.frozen (p := ⟨b, 6, none⟩) HNE.out.2.2).trans (HF.out 6)
   have f7 := (HB2.out.frozen (p := ⟨b, 7, none⟩) HNE.out.2.2).trans (HF.out 7)
   go_region
   go_wp2
   go_ret
   refine step_ok (tag := tag) ?_ ?_ ⟨bs, va, vs, cs, ?_⟩
   ·exact (((((HB2'.out.setCell HNE.out.2.1 _).setCell HNE.out.2.1 _).setCell HNE.out.2.1 _).setCell HNE.out.2.1 _).setCell HNE.out.2.1 _).drew
   ·skip
    unfold stepE
    have h1 := HSTT.out
    have h2 := HO.out
    have h3 := HAK.out
    have h4 := HXT.out
    have h5 := HXR.out
    simp [HT.out, h1, h2, h3, h4, h5]
   ·rw [stepS_2 HT.out HTX.out]
    refine HS2.out.storeB HI.out HX.out (fun k hk => ?_) (fun mb v h0 => ?_) rfl
    ·show ((((((w2.setCell ⟨b, 3, none⟩ _).setCell ⟨b, 4, none⟩ _).setCell ⟨b, 5, none⟩ _).setCell ⟨b, 6, none⟩ _).setCell ⟨b, 7, none⟩ _).heap[k]? = _)
     rw [heap_set _ _ _ _ _ hk, heap_set _ _ _ _ _ hk, heap_set _ _ _ _ _ hk, heap_set _ _ _ _ _ hk, heap_set _ _ _ _ _ hk]
    ·exact heap_put _ b 7 _ _ _ (heap_put _ b 6 _ _ _ (heap_put _ b 5 _ _ _ (heap_put _ b 4 _ _ _ (heap_put _ b 3 _ _ _ h0))))
  | true =>
   by_cases e1 : xt = et
   ·by_cases e2 : xr = er
    ·subst e1 e2
     go_enter Tryz.func133, Tryz.ntmps133
     go_wp2_with fail
     rw [HW1.out]
     replace c0 := cell_keep HB1.out c0
     replace c3 := cell_keep HB1.out c3
     replace c4 := cell_keep HB1.out c4
     replace c5 := cell_keep HB1.out c5
     replace c6 := cell_keep HB1.out c6
     replace c7 := cell_keep HB1.out c7
     go_quiet (fail)
     generalize hw2 : World.drewN w1 nq = w2
     have hh2 : w2.heap = w1.heap := by rw [← hw2]; rfl
     have hb2 : Below w.heap.size w w2 := by rw [← hw2]; exact below_drewN HB1.out nq
     have HS2 : Hid (StAt w2 B tag g s bs va vs cs) := Lib.hid (HST.out.same (fun k _ => by rw [hh2]))
     have HZ2 : Hid (w2.heap.size = w.heap.size + 1) := Lib.hid (by rw [hh2]; exact HSZ.out)
     have he2 := HEX.out
     rw [← hh2] at he2
     replace E3 := heap_cell he2 (j := 3) rfl
     replace E4 := heap_cell he2 (j := 4) rfl
     have E0 := heap_cell he2 (j := 0) rfl
     have E1 := heap_cell he2 (j := 1) rfl
     have E2 := heap_cell he2 (j := 2) rfl
     have E5 := heap_cell he2 (j := 5) rfl
     have E6 := heap_cell he2 (j := 6) rfl
     have d0 := (show w2.cell? ⟨b, 0, none⟩ = w1.cell? ⟨b, 0, none⟩ by rw [← hw2]; rfl).trans c0
     have d3 := (show w2.cell? ⟨b, 3, none⟩ = w1.cell? ⟨b, 3, none⟩ by rw [← hw2]; rfl).trans c3
     have d4 := (show w2.cell? ⟨b, 4, none⟩ = w1.cell? ⟨b, 4, none⟩ by rw [← hw2]; rfl).trans c4
     have d5 := (show w2.cell? ⟨b, 5, none⟩ = w1.cell? ⟨b, 5, none⟩ by rw [← hw2]; rfl).trans c5
     have d6 := (show w2.cell? ⟨b, 6, none⟩ = w1.cell? ⟨b, 6, none⟩ by rw [← hw2]; rfl).trans c6
     have d7 := (show w2.cell? ⟨b, 7, none⟩ = w1.cell? ⟨b, 7, none⟩ by rw [← hw2]; rfl).trans c7
     have HB2 := Lib.hid hb2
     have HB2' : Hid (Below B w w2) := Lib.hid (hb2.mono hB)
     have HE2 := Lib.hid he2
     clear hw2 hh2 hb2 he2 c0 c3 c4 c5 c6
     go_wp2
     go_ret
     refine step_bad HB2.out hB ?_ (by decide)
     unfold stepE
     have h1 := HSTT.out
     have h2 := HO.out
     simp [HT.out, h1, h2]
    ·have e2b : (xr == er) = false := by simp [e2]
     subst e1
     have HN : Hid (¬ (x.table = xt ∧ x.row = er)) := Lib.hid (by rw [HXR.out]; exact fun h => e2 h.2)
     clear e2
     go_enter Tryz.func133, Tryz.ntmps133
     go_wp2_with fail
     rw [HW1.out]
     replace c0 := cell_keep HB1.out c0
     replace c3 := cell_keep HB1.out c3
     replace c4 := cell_keep HB1.out c4
     replace c5 := cell_keep HB1.out c5
     replace c6 := cell_keep HB1.out c6
     replace c7 := cell_keep HB1.out c7
     go_quiet (fail)
     generalize hw2 : World.drewN w1 nq = w2
     have hh2 : w2.heap = w1.heap := by rw [← hw2]; rfl
     have hb2 : Below w.heap.size w w2 := by rw [← hw2]; exact below_drewN HB1.out nq
     have HS2 : Hid (StAt w2 B tag g s bs va vs cs) := Lib.hid (HST.out.same (fun k _ => by rw [hh2]))
     have HZ2 : Hid (w2.heap.size = w.heap.size + 1) := Lib.hid (by rw [hh2]; exact HSZ.out)
     have he2 := HEX.out
     rw [← hh2] at he2
     replace E3 := heap_cell he2 (j := 3) rfl
     replace E4 := heap_cell he2 (j := 4) rfl
     have E0 := heap_cell he2 (j := 0) rfl
     have E1 := heap_cell he2 (j := 1) rfl
     have E2 := heap_cell he2 (j := 2) rfl
     have E5 := heap_cell he2 (j := 5) rfl
     have E6 := heap_cell he2 (j := 6) rfl
     have d0 := (show w2.cell? ⟨b, 0, none⟩ = w1.cell? ⟨b, 0, none⟩ by rw [← hw2]; rfl).trans c0
     have d3 := (show w2.cell? ⟨b, 3, none⟩ = w1.cell? ⟨b, 3, none⟩ by rw [← hw2]; rfl).trans c3
     have d4 := (show w2.cell? ⟨b, 4, none⟩ = w1.cell? ⟨b, 4, none⟩ by rw [← hw2]; rfl).trans c4
     have d5 := (show w2.cell? ⟨b, 5, none⟩ = w1.cell? ⟨b, 5, none⟩ by rw [← hw2]; rfl).trans c5
     have d6 := (show w2.cell? ⟨b, 6, none⟩ = w1.cell? ⟨b, 6, none⟩ by rw [← hw2]; rfl).trans c6
     have d7 := (show w2.cell? ⟨b, 7, none⟩ = w1.cell? ⟨b, 7, none⟩ by rw [← hw2]; rfl).trans c7
     have HB2 := Lib.hid hb2
     have HB2' : Hid (Below B w w2) := Lib.hid (hb2.mono hB)
     have HE2 := Lib.hid he2
     clear hw2 hh2 hb2 he2 c0 c3 c4 c5 c6
     go_wp2
     go_ret
     refine step_bad HB2.out hB ?_ (by decide)
     unfold stepE
     have h1 := HSTT.out
     have h2 := HO.out
     simp [HT.out, h1, h2, HN.out]
   ·have e1b : (xt == et) = false := by simp [e1]
    have HN : Hid (¬ (x.table = et ∧ x.row = er)) := Lib.hid (by rw [HXT.out]; exact fun h => e1 h.1)
    clear e1
    go_enter Tryz.func133, Tryz.ntmps133
    go_wp2_with fail
    rw [HW1.out]
    replace c0 := cell_keep HB1.out c0
    replace c3 := cell_keep HB1.out c3
    replace c4 := cell_keep HB1.out c4
    replace c5 := cell_keep HB1.out c5
    replace c6 := cell_keep HB1.out c6
    replace c7 := cell_keep HB1.out c7
    go_quiet (fail)
    generalize hw2 : World.drewN w1 nq = w2
    have hh2 : w2.heap = w1.heap := by rw [← hw2]; rfl
    have hb2 : Below w.heap.size w w2 := by rw [← hw2]; exact below_drewN HB1.out nq
    have HS2 : Hid (StAt w2 B tag g s bs va vs cs) := Lib.hid (HST.out.same (fun k _ => by rw [hh2]))
    have HZ2 : Hid (w2.heap.size = w.heap.size + 1) := Lib.hid (by rw [hh2]; exact HSZ.out)
    have he2 := HEX.out
    rw [← hh2] at he2
    replace E3 := heap_cell he2 (j := 3) rfl
    replace E4 := heap_cell he2 (j := 4) rfl
    have E0 := heap_cell he2 (j := 0) rfl
    have E1 := heap_cell he2 (j := 1) rfl
    have E2 := heap_cell he2 (j := 2) rfl
    have E5 := heap_cell he2 (j := 5) rfl
    have E6 := heap_cell he2 (j := 6) rfl
    have d0 := (show w2.cell? ⟨b, 0, none⟩ = w1.cell? ⟨b, 0, none⟩ by rw [← hw2]; rfl).trans c0
    have d3 := (show w2.cell? ⟨b, 3, none⟩ = w1.cell? ⟨b, 3, none⟩ by rw [← hw2]; rfl).trans c3
    have d4 := (show w2.cell? ⟨b, 4, none⟩ = w1.cell? ⟨b, 4, none⟩ by rw [← hw2]; rfl).trans c4
    have d5 := (show w2.cell? ⟨b, 5, none⟩ = w1.cell? ⟨b, 5, none⟩ by rw [← hw2]; rfl).trans c5
    have d6 := (show w2.cell? ⟨b, 6, none⟩ = w1.cell? ⟨b, 6, none⟩ by rw [← hw2]; rfl).trans c6
    have d7 := (show w2.cell? ⟨b, 7, none⟩ = w1.cell? ⟨b, 7, none⟩ by rw [← hw2]; rfl).trans c7
    have HB2 := Lib.hid hb2
    have HB2' : Hid (Below B w w2) := Lib.hid (hb2.mono hB)
    have HE2 := Lib.hid he2
    clear hw2 hh2 hb2 he2 c0 c3 c4 c5 c6
    go_wp2
    go_ret
    refine step_bad HB2.out hB ?_ (by decide)
    unfold stepE
    have h1 := HSTT.out
    have h2 := HO.out
    simp [HT.out, h1, h2, HN.out]
 ·have hstb : (st == 1) = false := by simp [hst]
  have HN := Lib.hid hst
  clear hst
  go_enter Tryz.func133, Tryz.ntmps133
  go_wp2_with fail
  rw [HW1.out]
  replace c0 := cell_keep HB1.out c0
  replace c3 := cell_keep HB1.out c3
  replace c4 := cell_keep HB1.out c4
  replace c5 := cell_keep HB1.out c5
  replace c6 := cell_keep HB1.out c6
  replace c7 := cell_keep HB1.out c7
  go_quiet (fail)
  generalize hw2 : World.drewN w1 nq = w2
  have hh2 : w2.heap = w1.heap := by rw [← hw2]; rfl
  have hb2 : Below w.heap.size w w2 := by rw [← hw2]; exact below_drewN HB1.out nq
  have HS2 : Hid (StAt w2 B tag g s bs va vs cs) := Lib.hid (HST.out.same (fun k _ => by rw [hh2]))
  have HZ2 : Hid (w2.heap.size = w.heap.size + 1) := Lib.hid (by rw [hh2]; exact HSZ.out)
  have he2 := HEX.out
  rw [← hh2] at he2
  replace E3 := heap_cell he2 (j := 3) rfl
  replace E4 := heap_cell he2 (j := 4) rfl
  have E0 := heap_cell he2 (j := 0) rfl
  have E1 := heap_cell he2 (j := 1) rfl
  have E2 := heap_cell he2 (j := 2) rfl
  have E5 := heap_cell he2 (j := 5) rfl
  have E6 := heap_cell he2 (j := 6) rfl
  have d0 := (show w2.cell? ⟨b, 0, none⟩ = w1.cell? ⟨b, 0, none⟩ by rw [← hw2]; rfl).trans c0
  have d3 := (show w2.cell? ⟨b, 3, none⟩ = w1.cell? ⟨b, 3, none⟩ by rw [← hw2]; rfl).trans c3
  have d4 := (show w2.cell? ⟨b, 4, none⟩ = w1.cell? ⟨b, 4, none⟩ by rw [← hw2]; rfl).trans c4
  have d5 := (show w2.cell? ⟨b, 5, none⟩ = w1.cell? ⟨b, 5, none⟩ by rw [← hw2]; rfl).trans c5
  have d6 := (show w2.cell? ⟨b, 6, none⟩ = w1.cell? ⟨b, 6, none⟩ by rw [← hw2]; rfl).trans c6
  have d7 := (show w2.cell? ⟨b, 7, none⟩ = w1.cell? ⟨b, 7, none⟩ by rw [← hw2]; rfl).trans c7
  have HB2 := Lib.hid hb2
  have HB2' : Hid (Below B w w2) := Lib.hid (hb2.mono hB)
  have HE2 := Lib.hid he2
  clear hw2 hh2 hb2 he2 c0 c3 c4 c5 c6
  go_wp2
  go_ret
  refine step_bad HB2.out hB ?_ (by decide)
  unfold stepE
  have h1 := HSTT.out
  have h2 := HO.out
  simp [HT.out, h1, h2, HN.out]
set_option maxRecDepth 100000 in
set_option maxHeartbeats 4000000 in
theorem step4 {w : World} {B : Nat} {tag : Nat → Nat} {g : Nat} {s : St} {bs : List Nat} {va vs : Value} {cs : Array Value} (h : StAt w B tag g s bs va vs cs) (hB : B ≤ w.heap.size) {i b : Nat} {x : Tx} (hi : bs[i]? = some b) (hx : s.all[i]? = some x) (ec ex et er em eq p : Int) (ht : ex = (i : Int) + 1) :
 Calls Tryz.prog 133 #[.pointer (some ⟨g, 0, none⟩), .pointer (some ⟨b, 0, none⟩), .agg #[.int .i64 4, .int .i64 ec, .int .i64 ex, .int .i64 et, .int .i64 er, .int .i64 em, .int .i64 eq], .int .i64 p] w fun r w' =>
  StepOf w w' B g (stepE s ⟨4, ec, ex, et, er, em, eq⟩ p) (stepS s ⟨4, ec, ex, et, er, em, eq⟩ p) r := by
 have HT := Lib.hid (tx_is hx ht)
 have HTX := Lib.hid ht
 clear ht
 obtain ⟨mb, A, c1, lb, c0, _, c2, c3, c4, c5, c6, c7, _⟩ := (h.one hi hx).at
 have hf : ∀ j, w.frozen? ⟨b, j, none⟩ = false := by obtain ⟨_, _, h1, _⟩ := h.one hi hx; exact fun j => heap_free h1
 have nb : ¬ b = w.heap.size := by omega
 have nb' : ¬ w.heap.size = b := by omega
 obtain ⟨w1, hw1⟩ : ∃ W, w.alloc (.cells #[.int .i64 4, .int .i64 ec, .int .i64 ex, .int .i64 et, .int .i64 er, .int .i64 em, .int .i64 eq] 44) = W := ⟨_, rfl⟩
 have hb1 : Below w.heap.size w w1 := by rw [← hw1]; exact (Below.refl _ _).alloc (Nat.le_refl _) _
 have hs1 : w1.heap.size = w.heap.size + 1 := by rw [← hw1]; simp
 have he1 : w1.heap[w.heap.size]? = some (.cells #[.int .i64 4, .int .i64 ec, .int .i64 ex, .int .i64 et, .int .i64 er, .int .i64 em, .int .i64 eq] 44 (0, 0)) := by rw [← hw1, heap_push, if_pos rfl]
 have hst1 := h.below hb1
 have E3 := heap_cell he1 (j := 3) (u := .int .i64 et) rfl
 have E4 := heap_cell he1 (j := 4) (u := .int .i64 er) rfl
 have HW1 := Lib.hid hw1
 have HI := Lib.hid hi
 have HX := Lib.hid hx
 have HST := Lib.hid hst1
 have HB1 := Lib.hid hb1
 have HSZ := Lib.hid hs1
 have HEX := Lib.hid he1
 have HF := Lib.hid hf
 have HNE := Lib.hid (h.ne hi hx)
 have HH := Lib.hid h
 have H4 := Lib.hid c4
 have H5 := Lib.hid c5
 obtain ⟨st, hst⟩ : ∃ v, x.state = v := ⟨_, rfl⟩
 obtain ⟨op, hop⟩ : ∃ v, x.opn = v := ⟨_, rfl⟩
 obtain ⟨ak, hak⟩ : ∃ v, x.asked = v := ⟨_, rfl⟩
 obtain ⟨xt, hxt⟩ : ∃ v, x.table = v := ⟨_, rfl⟩
 obtain ⟨xr, hxr⟩ : ∃ v, x.row = v := ⟨_, rfl⟩
 rw [hst] at c0
 rw [hop] at c4
 rw [hak] at c3
 rw [hxt] at c5
 rw [hxr] at c6
 have HO := Lib.hid hop
 have HAK := Lib.hid hak
 have HSTT := Lib.hid hst
 have HXT := Lib.hid hxt
 have HXR := Lib.hid hxr
 clear hw1 hb1 hs1 he1 hst1 hi hx hf h hst hop hak hxt hxr
 by_cases hst : st = 1
 ·subst hst
  cases op with
  | false =>
   go_enter Tryz.func133, Tryz.ntmps133
   go_wp2_with fail
   rw [HW1.out]
   replace c0 := cell_keep HB1.out c0
   replace c3 := cell_keep HB1.out c3
   replace c4 := cell_keep HB1.out c4
   replace c5 := cell_keep HB1.out c5
   replace c6 := cell_keep HB1.out c6
   replace c7 := cell_keep HB1.out c7
   go_quiet (fail)
   generalize hw2 : World.drewN w1 nq = w2
   have hh2 : w2.heap = w1.heap := by rw [← hw2]; rfl
   have hb2 : Below w.heap.size w w2 := by rw [← hw2]; exact below_drewN HB1.out nq
   have HS2 : Hid (StAt w2 B tag g s bs va vs cs) := Lib.hid (HST.out.same (fun k _ => by rw [hh2]))
   have HZ2 : Hid (w2.heap.size = w.heap.size + 1) := Lib.hid (by rw [hh2]; exact HSZ.out)
   have he2 := HEX.out
   rw [← hh2] at he2
   replace E3 := heap_cell he2 (j := 3) rfl
   replace E4 := heap_cell he2 (j := 4) rfl
   have E0 := heap_cell he2 (j := 0) rfl
   have E1 := heap_cell he2 (j := 1) rfl
   have E2 := heap_cell he2 (j := 2) rfl
   have E5 := heap_cell he2 (j := 5) rfl
   have E6 := heap_cell he2 (j := 6) rfl
   have d0 := (show w2.cell? ⟨b, 0, none⟩ = w1.cell? ⟨b, 0, none⟩ by rw [← hw2]; rfl).trans c0
   have d3 := (show w2.cell? ⟨b, 3, none⟩ = w1.cell? ⟨b, 3, none⟩ by rw [← hw2]; rfl).trans c3
   have d4 := (show w2.cell? ⟨b, 4, none⟩ = w1.cell? ⟨b, 4, none⟩ by rw [← hw2]; rfl).trans c4
   have d5 := (show w2.cell? ⟨b, 5, none⟩ = w1.cell? ⟨b, 5, none⟩ by rw [← hw2]; rfl).trans c5
   have d6 := (show w2.cell? ⟨b, 6, none⟩ = w1.cell? ⟨b, 6, none⟩ by rw [← hw2]; rfl).trans c6
   have d7 := (show w2.cell? ⟨b, 7, none⟩ = w1.cell? ⟨b, 7, none⟩ by rw [← hw2]; rfl).trans c7
   have HB2 := Lib.hid hb2
   have HB2' : Hid (Below B w w2) := Lib.hid (hb2.mono hB)
   have HE2 := Lib.hid he2
   clear hw2 hh2 hb2 he2 c0 c3 c4 c5 c6
   go_wp2
   go_ret
   refine step_bad HB2.out hB ?_ (by decide)
   unfold stepE
   have h1 := HSTT.out
   have h2 := HO.out
   simp [HT.out, h1, h2]
  | true =>
   by_cases e1 : xt = et
   ·by_cases e2 : xr = er
    ·subst e1 e2
     go_enter Tryz.func133, Tryz.ntmps133
     go_wp2_with fail
     rw [HW1.out]
     replace c0 := cell_keep HB1.out c0
     replace c3 := cell_keep HB1.out c3
     replace c4 := cell_keep HB1.out c4
     replace c5 := cell_keep HB1.out c5
     replace c6 := cell_keep HB1.out c6
     replace c7 := cell_keep HB1.out c7
     go_quiet (fail)
     generalize hw2 : World.drewN w1 nq = w2
     have hh2 : w2.heap = w1.heap := by rw [← hw2]; rfl
     have hb2 : Below w.heap.size w w2 := by rw [← hw2]; exact below_drewN HB1.out nq
     have HS2 : Hid (StAt w2 B tag g s bs va vs cs) := Lib.hid (HST.out.same (fun k _ => by rw [hh2]))
     have HZ2 : Hid (w2.heap.size = w.heap.size + 1) := Lib.hid (by rw [hh2]; exact HSZ.out)
     have he2 := HEX.out
     rw [← hh2] at he2
     replace E3 := heap_cell he2 (j := 3) rfl
     replace E4 := heap_cell he2 (j := 4) rfl
     have E0 := heap_cell he2 (j := 0) rfl
     have E1 := heap_cell he2 (j := 1) rfl
     have E2 := heap_cell he2 (j := 2) rfl
     have E5 := heap_cell he2 (j := 5) rfl
     have E6 := heap_cell he2 (j := 6) rfl
     have d0 := (show w2.cell? ⟨b, 0, none⟩ = w1.cell? ⟨b, 0, none⟩ by rw [← hw2]; rfl).trans c0
     have d3 := (show w2.cell? ⟨b, 3, none⟩ = w1.cell? ⟨b, 3, none⟩ by rw [← hw2]; rfl).trans c3
     have d4 := (show w2.cell? ⟨b, 4, none⟩ = w1.cell? ⟨b, 4, none⟩ by rw [← hw2]; rfl).trans c4
     have d5 := (show w2.cell? ⟨b, 5, none⟩ = w1.cell? ⟨b, 5, none⟩ by rw [← hw2]; rfl).trans c5
     have d6 := (show w2.cell? ⟨b, 6, none⟩ = w1.cell? ⟨b, 6, none⟩ by rw [← hw2]; rfl).trans c6
     have d7 := (show w2.cell? ⟨b, 7, none⟩ = w1.cell? ⟨b, 7, none⟩ by rw [← hw2]; rfl).trans c7
     have HB2 := Lib.hid hb2
     have HB2' : Hid (Below B w w2) := Lib.hid (hb2.mono hB)
     have HE2 := Lib.hid he2
     clear hw2 hh2 hb2 he2 c0 c3 c4 c5 c6
     have f4 := (HB2.out.frozen (p := ⟨b, 4, none⟩) HNE.out.2.2).trans (HF.out 4)
     go_wp2
     go_ret
     refine step_ok (tag := tag) (HB2'.out.setCell HNE.out.2.1 _) ?_ ⟨bs, va, vs, cs, ?_⟩
     ·skip
      unfold stepE
      have h1 := HSTT.out
      have h2 := HO.out
      have h3 := HAK.out
      have h4 := HXT.out
      have h5 := HXR.out
      simp [HT.out, h1, h2, h3, h4, h5]
     ·rw [stepS_4 HT.out HTX.out]
      exact HS2.out.store HI.out HX.out 4 (.bool false) (fun _ _ => rfl) rfl
    ·have e2b : (xr == er) = false := by simp [e2]
     subst e1
     have HN : Hid (¬ (x.table = xt ∧ x.row = er)) := Lib.hid (by rw [HXR.out]; exact fun h => e2 h.2)
     clear e2
     go_enter Tryz.func133, Tryz.ntmps133
     go_wp2_with fail
     rw [HW1.out]
     replace c0 := cell_keep HB1.out c0
     replace c3 := cell_keep HB1.out c3
     replace c4 := cell_keep HB1.out c4
     replace c5 := cell_keep HB1.out c5
     replace c6 := cell_keep HB1.out c6
     replace c7 := cell_keep HB1.out c7
     go_quiet (fail)
     generalize hw2 : World.drewN w1 nq = w2
     have hh2 : w2.heap = w1.heap := by rw [← hw2]; rfl
     have hb2 : Below w.heap.size w w2 := by rw [← hw2]; exact below_drewN HB1.out nq
     have HS2 : Hid (StAt w2 B tag g s bs va vs cs) := Lib.hid (HST.out.same (fun k _ => by rw [hh2]))
     have HZ2 : Hid (w2.heap.size = w.heap.size + 1) := Lib.hid (by rw [hh2]; exact HSZ.out)
     have he2 := HEX.out
     rw [← hh2] at he2
     replace E3 := heap_cell he2 (j := 3) rfl
     replace E4 := heap_cell he2 (j := 4) rfl
     have E0 := heap_cell he2 (j := 0) rfl
     have E1 := heap_cell he2 (j := 1) rfl
     have E2 := heap_cell he2 (j := 2) rfl
     have E5 := heap_cell he2 (j := 5) rfl
     have E6 := heap_cell he2 (j := 6) rfl
     have d0 := (show w2.cell? ⟨b, 0, none⟩ = w1.cell? ⟨b, 0, none⟩ by rw [← hw2]; rfl).trans c0
     have d3 := (show w2.cell? ⟨b, 3, none⟩ = w1.cell? ⟨b, 3, none⟩ by rw [← hw2]; rfl).trans c3
     have d4 := (show w2.cell? ⟨b, 4, none⟩ = w1.cell? ⟨b, 4, none⟩ by rw [← hw2]; rfl).trans c4
     have d5 := (show w2.cell? ⟨b, 5, none⟩ = w1.cell? ⟨b, 5, none⟩ by rw [← hw2]; rfl).trans c5
     have d6 := (show w2.cell? ⟨b, 6, none⟩ = w1.cell? ⟨b, 6, none⟩ by rw [← hw2]; rfl).trans c6
     have d7 := (show w2.cell? ⟨b, 7, none⟩ = w1.cell? ⟨b, 7, none⟩ by rw [← hw2]; rfl).trans c7
     have HB2 := Lib.hid hb2
     have HB2' : Hid (Below B w w2) := Lib.hid (hb2.mono hB)
     have HE2 := Lib.hid he2
     clear hw2 hh2 hb2 he2 c0 c3 c4 c5 c6
     go_wp2
     go_ret
     refine step_bad HB2.out hB ?_ (by decide)
     unfold stepE
     have h1 := HSTT.out
     have h2 := HO.out
     simp [HT.out, h1, h2, HN.out]
   ·have e1b : (xt == et) = false := by simp [e1]
    have HN : Hid (¬ (x.table = et ∧ x.row = er)) := Lib.hid (by rw [HXT.out]; exact fun h => e1 h.1)
    clear e1
    go_enter Tryz.func133, Tryz.ntmps133
    go_wp2_with fail
    rw [HW1.out]
    replace c0 := cell_keep HB1.out c0
    replace c3 := cell_keep HB1.out c3
    replace c4 := cell_keep HB1.out c4
    replace c5 := cell_keep HB1.out c5
    replace c6 := cell_keep HB1.out c6
    replace c7 := cell_keep HB1.out c7
    go_quiet (fail)
    generalize hw2 : World.drewN w1 nq = w2
    have hh2 : w2.heap = w1.heap := by rw [← hw2]; rfl
    have hb2 : Below w.heap.size w w2 := by rw [← hw2]; exact below_drewN HB1.out nq
    have HS2 : Hid (StAt w2 B tag g s bs va vs cs) := Lib.hid (HST.out.same (fun k _ => by rw [hh2]))
    have HZ2 : Hid (w2.heap.size = w.heap.size + 1) := Lib.hid (by rw [hh2]; exact HSZ.out)
    have he2 := HEX.out
    rw [← hh2] at he2
    replace E3 := heap_cell he2 (j := 3) rfl
    replace E4 := heap_cell he2 (j := 4) rfl
    have E0 := heap_cell he2 (j := 0) rfl
    have E1 := heap_cell he2 (j := 1) rfl
    have E2 := heap_cell he2 (j := 2) rfl
    have E5 := heap_cell he2 (j := 5) rfl
    have E6 := heap_cell he2 (j := 6) rfl
    have d0 := (show w2.cell? ⟨b, 0, none⟩ = w1.cell? ⟨b, 0, none⟩ by rw [← hw2]; rfl).trans c0
    have d3 := (show w2.cell? ⟨b, 3, none⟩ = w1.cell? ⟨b, 3, none⟩ by rw [← hw2]; rfl).trans c3
    have d4 := (show w2.cell? ⟨b, 4, none⟩ = w1.cell? ⟨b, 4, none⟩ by rw [← hw2]; rfl).trans c4
    have d5 := (show w2.cell? ⟨b, 5, none⟩ = w1.cell? ⟨b, 5, none⟩ by rw [← hw2]; rfl).trans c5
    have d6 := (show w2.cell? ⟨b, 6, none⟩ = w1.cell? ⟨b, 6, none⟩ by rw [← hw2]; rfl).trans c6
    have d7 := (show w2.cell? ⟨b, 7, none⟩ = w1.cell? ⟨b, 7, none⟩ by rw [← hw2]; rfl).trans c7
    have HB2 := Lib.hid hb2
    have HB2' : Hid (Below B w w2) := Lib.hid (hb2.mono hB)
    have HE2 := Lib.hid he2
    clear hw2 hh2 hb2 he2 c0 c3 c4 c5 c6
    go_wp2
    go_ret
    refine step_bad HB2.out hB ?_ (by decide)
    unfold stepE
    have h1 := HSTT.out
    have h2 := HO.out
    simp [HT.out, h1, h2, HN.out]
 ·have hstb : (st == 1) = false := by simp [hst]
  have HN := Lib.hid hst
  clear hst
  go_enter Tryz.func133, Tryz.ntmps133
  go_wp2_with fail
  rw [HW1.out]
  replace c0 := cell_keep HB1.out c0
  replace c3 := cell_keep HB1.out c3
  replace c4 := cell_keep HB1.out c4
  replace c5 := cell_keep HB1.out c5
  replace c6 := cell_keep HB1.out c6
  replace c7 := cell_keep HB1.out c7
  go_quiet (fail)
  generalize hw2 : World.drewN w1 nq = w2
  have hh2 : w2.heap = w1.heap := by rw [← hw2]; rfl
  have hb2 : Below w.heap.size w w2 := by rw [← hw2]; exact below_drewN HB1.out nq
  have HS2 : Hid (StAt w2 B tag g s bs va vs cs) := Lib.hid (HST.out.same (fun k _ => by rw [hh2]))
  have HZ2 : Hid (w2.heap.size = w.heap.size + 1) := Lib.hid (by rw [hh2]; exact HSZ.out)
  have he2 := HEX.out
  rw [← hh2] at he2
  replace E3 := heap_cell he2 (j := 3) rfl
  replace E4 := heap_cell he2 (j := 4) rfl
  have E0 := heap_cell he2 (j := 0) rfl
  have E1 := heap_cell he2 (j := 1) rfl
  have E2 := heap_cell he2 (j := 2) rfl
  have E5 := heap_cell he2 (j := 5) rfl
  have E6 := heap_cell he2 (j := 6) rfl
  have d0 := (show w2.cell? ⟨b, 0, none⟩ = w1.cell? ⟨b, 0, none⟩ by rw [← hw2]; rfl).trans c0
  have d3 := (show w2.cell? ⟨b, 3, none⟩ = w1.cell? ⟨b, 3, none⟩ by rw [← hw2]; rfl).trans c3
  have d4 := (show w2.cell? ⟨b, 4, none⟩ = w1.cell? ⟨b, 4, none⟩ by rw [← hw2]; rfl).trans c4
  have d5 := (show w2.cell? ⟨b, 5, none⟩ = w1.cell? ⟨b, 5, none⟩ by rw [← hw2]; rfl).trans c5
  have d6 := (show w2.cell? ⟨b, 6, none⟩ = w1.cell? ⟨b, 6, none⟩ by rw [← hw2]; rfl).trans c6
  have d7 := (show w2.cell? ⟨b, 7, none⟩ = w1.cell? ⟨b, 7, none⟩ by rw [← hw2]; rfl).trans c7
  have HB2 := Lib.hid hb2
  have HB2' : Hid (Below B w w2) := Lib.hid (hb2.mono hB)
  have HE2 := Lib.hid he2
  clear hw2 hh2 hb2 he2 c0 c3 c4 c5 c6
  go_wp2
  go_ret
  refine step_bad HB2.out hB ?_ (by decide)
  unfold stepE
  have h1 := HSTT.out
  have h2 := HO.out
  simp [HT.out, h1, h2, HN.out]
set_option maxRecDepth 100000 in
set_option maxHeartbeats 4000000 in
theorem step5 {w : World} {B : Nat} {tag : Nat → Nat} {g : Nat} {s : St} {bs : List Nat} {va vs : Value} {cs : Array Value} (h : StAt w B tag g s bs va vs cs) (hB : B ≤ w.heap.size) {i b : Nat} {x : Tx} (hi : bs[i]? = some b) (hx : s.all[i]? = some x) (ec ex et er em eq p : Int) (ht : ex = (i : Int) + 1) :
 Calls Tryz.prog 133 #[.pointer (some ⟨g, 0, none⟩), .pointer (some ⟨b, 0, none⟩), .agg #[.int .i64 5, .int .i64 ec, .int .i64 ex, .int .i64 et, .int .i64 er, .int .i64 em, .int .i64 eq], .int .i64 p] w fun r w' =>
  StepOf w w' B g (stepE s ⟨5, ec, ex, et, er, em, eq⟩ p) (stepS s ⟨5, ec, ex, et, er, em, eq⟩ p) r := by
 have HT := Lib.hid (tx_is hx ht)
 have HTX := Lib.hid ht
 clear ht
 obtain ⟨mb, A, c1, lb, c0, _, c2, c3, c4, c5, c6, c7, _⟩ := (h.one hi hx).at
 have hf : ∀ j, w.frozen? ⟨b, j, none⟩ = false := by obtain ⟨_, _, h1, _⟩ := h.one hi hx; exact fun j => heap_free h1
 have nb : ¬ b = w.heap.size := by omega
 have nb' : ¬ w.heap.size = b := by omega
 obtain ⟨w1, hw1⟩ : ∃ W, w.alloc (.cells #[.int .i64 5, .int .i64 ec, .int .i64 ex, .int .i64 et, .int .i64 er, .int .i64 em, .int .i64 eq] 44) = W := ⟨_, rfl⟩
 have hb1 : Below w.heap.size w w1 := by rw [← hw1]; exact (Below.refl _ _).alloc (Nat.le_refl _) _
 have hs1 : w1.heap.size = w.heap.size + 1 := by rw [← hw1]; simp
 have he1 : w1.heap[w.heap.size]? = some (.cells #[.int .i64 5, .int .i64 ec, .int .i64 ex, .int .i64 et, .int .i64 er, .int .i64 em, .int .i64 eq] 44 (0, 0)) := by rw [← hw1, heap_push, if_pos rfl]
 have hst1 := h.below hb1
 have E3 := heap_cell he1 (j := 3) (u := .int .i64 et) rfl
 have E4 := heap_cell he1 (j := 4) (u := .int .i64 er) rfl
 have HW1 := Lib.hid hw1
 have HI := Lib.hid hi
 have HX := Lib.hid hx
 have HST := Lib.hid hst1
 have HB1 := Lib.hid hb1
 have HSZ := Lib.hid hs1
 have HEX := Lib.hid he1
 have HF := Lib.hid hf
 have HNE := Lib.hid (h.ne hi hx)
 have HH := Lib.hid h
 have H4 := Lib.hid c4
 have H5 := Lib.hid c5
 obtain ⟨st, hst⟩ : ∃ v, x.state = v := ⟨_, rfl⟩
 obtain ⟨op, hop⟩ : ∃ v, x.opn = v := ⟨_, rfl⟩
 obtain ⟨ak, hak⟩ : ∃ v, x.asked = v := ⟨_, rfl⟩
 obtain ⟨xt, hxt⟩ : ∃ v, x.table = v := ⟨_, rfl⟩
 obtain ⟨xr, hxr⟩ : ∃ v, x.row = v := ⟨_, rfl⟩
 rw [hst] at c0
 rw [hop] at c4
 rw [hak] at c3
 rw [hxt] at c5
 rw [hxr] at c6
 have HO := Lib.hid hop
 have HAK := Lib.hid hak
 have HSTT := Lib.hid hst
 have HXT := Lib.hid hxt
 have HXR := Lib.hid hxr
 clear hw1 hb1 hs1 he1 hst1 hi hx hf h hst hop hak hxt hxr
 by_cases hst : st = 1
 ·subst hst
  cases op with
  | false =>
   go_enter Tryz.func133, Tryz.ntmps133
   go_wp2_with fail
   rw [HW1.out]
   replace c0 := cell_keep HB1.out c0
   replace c3 := cell_keep HB1.out c3
   replace c4 := cell_keep HB1.out c4
   replace c5 := cell_keep HB1.out c5
   replace c6 := cell_keep HB1.out c6
   replace c7 := cell_keep HB1.out c7
   go_quiet (fail)
   generalize hw2 : World.drewN w1 nq = w2
   have hh2 : w2.heap = w1.heap := by rw [← hw2]; rfl
   have hb2 : Below w.heap.size w w2 := by rw [← hw2]; exact below_drewN HB1.out nq
   have HS2 : Hid (StAt w2 B tag g s bs va vs cs) := Lib.hid (HST.out.same (fun k _ => by rw [hh2]))
   have HZ2 : Hid (w2.heap.size = w.heap.size + 1) := Lib.hid (by rw [hh2]; exact HSZ.out)
   have he2 := HEX.out
   rw [← hh2] at he2
   replace E3 := heap_cell he2 (j := 3) rfl
   replace E4 := heap_cell he2 (j := 4) rfl
   have E0 := heap_cell he2 (j := 0) rfl
   have E1 := heap_cell he2 (j := 1) rfl
   have E2 := heap_cell he2 (j := 2) rfl
   have E5 := heap_cell he2 (j := 5) rfl
   have E6 := heap_cell he2 (j := 6) rfl
   have d0 := (show w2.cell? ⟨b, 0, none⟩ = w1.cell? ⟨b, 0, none⟩ by rw [← hw2]; rfl).trans c0
   have d3 := (show w2.cell? ⟨b, 3, none⟩ = w1.cell? ⟨b, 3, none⟩ by rw [← hw2]; rfl).trans c3
   have d4 := (show w2.cell? ⟨b, 4, none⟩ = w1.cell? ⟨b, 4, none⟩ by rw [← hw2]; rfl).trans c4
   have d5 := (show w2.cell? ⟨b, 5, none⟩ = w1.cell? ⟨b, 5, none⟩ by rw [← hw2]; rfl).trans c5
   have d6 := (show w2.cell? ⟨b, 6, none⟩ = w1.cell? ⟨b, 6, none⟩ by rw [← hw2]; rfl).trans c6
   have d7 := (show w2.cell? ⟨b, 7, none⟩ = w1.cell? ⟨b, 7, none⟩ by rw [← hw2]; rfl).trans c7
   have HB2 := Lib.hid hb2
   have HB2' : Hid (Below B w w2) := Lib.hid (hb2.mono hB)
   have HE2 := Lib.hid he2
   clear hw2 hh2 hb2 he2 c0 c3 c4 c5 c6
   cases ak with
   | true =>
    have f0 := (HB2.out.frozen (p := ⟨b, 0, none⟩) HNE.out.2.2).trans (HF.out 0)
    go_wp2
    go_ret
    refine step_ok (tag := tag) (HB2'.out.setCell HNE.out.2.1 _) ?_ ⟨bs, va, vs, cs, ?_⟩
    ·skip
     unfold stepE
     have h1 := HSTT.out
     have h2 := HO.out
     have h3 := HAK.out
     have h4 := HXT.out
     have h5 := HXR.out
     simp [HT.out, h1, h2, h3, h4, h5]
    ·rw [stepS_5 HT.out HTX.out]
     exact HS2.out.store HI.out HX.out 0 (.int .i64 2) (fun _ _ => rfl) rfl
   | false =>
    have HN := HAK
    go_wp2
    go_ret
    refine step_bad HB2.out hB ?_ (by decide)
    unfold stepE
    have h1 := HSTT.out
    have h2 := HO.out
    simp [HT.out, h1, h2, HN.out]
  | true =>
   by_cases e1 : xt = et
   ·by_cases e2 : xr = er
    ·subst e1 e2
     go_enter Tryz.func133, Tryz.ntmps133
     go_wp2_with fail
     rw [HW1.out]
     replace c0 := cell_keep HB1.out c0
     replace c3 := cell_keep HB1.out c3
     replace c4 := cell_keep HB1.out c4
     replace c5 := cell_keep HB1.out c5
     replace c6 := cell_keep HB1.out c6
     replace c7 := cell_keep HB1.out c7
     go_quiet (fail)
     generalize hw2 : World.drewN w1 nq = w2
     have hh2 : w2.heap = w1.heap := by rw [← hw2]; rfl
     have hb2 : Below w.heap.size w w2 := by rw [← hw2]; exact below_drewN HB1.out nq
     have HS2 : Hid (StAt w2 B tag g s bs va vs cs) := Lib.hid (HST.out.same (fun k _ => by rw [hh2]))
     have HZ2 : Hid (w2.heap.size = w.heap.size + 1) := Lib.hid (by rw [hh2]; exact HSZ.out)
     have he2 := HEX.out
     rw [← hh2] at he2
     replace E3 := heap_cell he2 (j := 3) rfl
     replace E4 := heap_cell he2 (j := 4) rfl
     have E0 := heap_cell he2 (j := 0) rfl
     have E1 := heap_cell he2 (j := 1) rfl
     have E2 := heap_cell he2 (j := 2) rfl
     have E5 := heap_cell he2 (j := 5) rfl
     have E6 := heap_cell he2 (j := 6) rfl
     have d0 := (show w2.cell? ⟨b, 0, none⟩ = w1.cell? ⟨b, 0, none⟩ by rw [← hw2]; rfl).trans c0
     have d3 := (show w2.cell? ⟨b, 3, none⟩ = w1.cell? ⟨b, 3, none⟩ by rw [← hw2]; rfl).trans c3
     have d4 := (show w2.cell? ⟨b, 4, none⟩ = w1.cell? ⟨b, 4, none⟩ by rw [← hw2]; rfl).trans c4
     have d5 := (show w2.cell? ⟨b, 5, none⟩ = w1.cell? ⟨b, 5, none⟩ by rw [← hw2]; rfl).trans c5
     have d6 := (show w2.cell? ⟨b, 6, none⟩ = w1.cell? ⟨b, 6, none⟩ by rw [← hw2]; rfl).trans c6
     have d7 := (show w2.cell? ⟨b, 7, none⟩ = w1.cell? ⟨b, 7, none⟩ by rw [← hw2]; rfl).trans c7
     have HB2 := Lib.hid hb2
     have HB2' : Hid (Below B w w2) := Lib.hid (hb2.mono hB)
     have HE2 := Lib.hid he2
     clear hw2 hh2 hb2 he2 c0 c3 c4 c5 c6
     go_wp2
     go_ret
     refine step_bad HB2.out hB ?_ (by decide)
     unfold stepE
     have h1 := HSTT.out
     have h2 := HO.out
     simp [HT.out, h1, h2]
    ·have e2b : (xr == er) = false := by simp [e2]
     subst e1
     have HN : Hid (¬ (x.table = xt ∧ x.row = er)) := Lib.hid (by rw [HXR.out]; exact fun h => e2 h.2)
     clear e2
     go_enter Tryz.func133, Tryz.ntmps133
     go_wp2_with fail
     rw [HW1.out]
     replace c0 := cell_keep HB1.out c0
     replace c3 := cell_keep HB1.out c3
     replace c4 := cell_keep HB1.out c4
     replace c5 := cell_keep HB1.out c5
     replace c6 := cell_keep HB1.out c6
     replace c7 := cell_keep HB1.out c7
     go_quiet (fail)
     generalize hw2 : World.drewN w1 nq = w2
     have hh2 : w2.heap = w1.heap := by rw [← hw2]; rfl
     have hb2 : Below w.heap.size w w2 := by rw [← hw2]; exact below_drewN HB1.out nq
     have HS2 : Hid (StAt w2 B tag g s bs va vs cs) := Lib.hid (HST.out.same (fun k _ => by rw [hh2]))
     have HZ2 : Hid (w2.heap.size = w.heap.size + 1) := Lib.hid (by rw [hh2]; exact HSZ.out)
     have he2 := HEX.out
     rw [← hh2] at he2
     replace E3 := heap_cell he2 (j := 3) rfl
     replace E4 := heap_cell he2 (j := 4) rfl
     have E0 := heap_cell he2 (j := 0) rfl
     have E1 := heap_cell he2 (j := 1) rfl
     have E2 := heap_cell he2 (j := 2) rfl
     have E5 := heap_cell he2 (j := 5) rfl
     have E6 := heap_cell he2 (j := 6) rfl
     have d0 := (show w2.cell? ⟨b, 0, none⟩ = w1.cell? ⟨b, 0, none⟩ by rw [← hw2]; rfl).trans c0
     have d3 := (show w2.cell? ⟨b, 3, none⟩ = w1.cell? ⟨b, 3, none⟩ by rw [← hw2]; rfl).trans c3
     have d4 := (show w2.cell? ⟨b, 4, none⟩ = w1.cell? ⟨b, 4, none⟩ by rw [← hw2]; rfl).trans c4
     have d5 := (show w2.cell? ⟨b, 5, none⟩ = w1.cell? ⟨b, 5, none⟩ by rw [← hw2]; rfl).trans c5
     have d6 := (show w2.cell? ⟨b, 6, none⟩ = w1.cell? ⟨b, 6, none⟩ by rw [← hw2]; rfl).trans c6
     have d7 := (show w2.cell? ⟨b, 7, none⟩ = w1.cell? ⟨b, 7, none⟩ by rw [← hw2]; rfl).trans c7
     have HB2 := Lib.hid hb2
     have HB2' : Hid (Below B w w2) := Lib.hid (hb2.mono hB)
     have HE2 := Lib.hid he2
     clear hw2 hh2 hb2 he2 c0 c3 c4 c5 c6
     go_wp2
     go_ret
     refine step_bad HB2.out hB ?_ (by decide)
     unfold stepE
     have h1 := HSTT.out
     have h2 := HO.out
     simp [HT.out, h1, h2, HN.out]
   ·have e1b : (xt == et) = false := by simp [e1]
    have HN : Hid (¬ (x.table = et ∧ x.row = er)) := Lib.hid (by rw [HXT.out]; exact fun h => e1 h.1)
    clear e1
    go_enter Tryz.func133, Tryz.ntmps133
    go_wp2_with fail
    rw [HW1.out]
    replace c0 := cell_keep HB1.out c0
    replace c3 := cell_keep HB1.out c3
    replace c4 := cell_keep HB1.out c4
    replace c5 := cell_keep HB1.out c5
    replace c6 := cell_keep HB1.out c6
    replace c7 := cell_keep HB1.out c7
    go_quiet (fail)
    generalize hw2 : World.drewN w1 nq = w2
    have hh2 : w2.heap = w1.heap := by rw [← hw2]; rfl
    have hb2 : Below w.heap.size w w2 := by rw [← hw2]; exact below_drewN HB1.out nq
    have HS2 : Hid (StAt w2 B tag g s bs va vs cs) := Lib.hid (HST.out.same (fun k _ => by rw [hh2]))
    have HZ2 : Hid (w2.heap.size = w.heap.size + 1) := Lib.hid (by rw [hh2]; exact HSZ.out)
    have he2 := HEX.out
    rw [← hh2] at he2
    replace E3 := heap_cell he2 (j := 3) rfl
    replace E4 := heap_cell he2 (j := 4) rfl
    have E0 := heap_cell he2 (j := 0) rfl
    have E1 := heap_cell he2 (j := 1) rfl
    have E2 := heap_cell he2 (j := 2) rfl
    have E5 := heap_cell he2 (j := 5) rfl
    have E6 := heap_cell he2 (j := 6) rfl
    have d0 := (show w2.cell? ⟨b, 0, none⟩ = w1.cell? ⟨b, 0, none⟩ by rw [← hw2]; rfl).trans c0
    have d3 := (show w2.cell? ⟨b, 3, none⟩ = w1.cell? ⟨b, 3, none⟩ by rw [← hw2]; rfl).trans c3
    have d4 := (show w2.cell? ⟨b, 4, none⟩ = w1.cell? ⟨b, 4, none⟩ by rw [← hw2]; rfl).trans c4
    have d5 := (show w2.cell? ⟨b, 5, none⟩ = w1.cell? ⟨b, 5, none⟩ by rw [← hw2]; rfl).trans c5
    have d6 := (show w2.cell? ⟨b, 6, none⟩ = w1.cell? ⟨b, 6, none⟩ by rw [← hw2]; rfl).trans c6
    have d7 := (show w2.cell? ⟨b, 7, none⟩ = w1.cell? ⟨b, 7, none⟩ by rw [← hw2]; rfl).trans c7
    have HB2 := Lib.hid hb2
    have HB2' : Hid (Below B w w2) := Lib.hid (hb2.mono hB)
    have HE2 := Lib.hid he2
    clear hw2 hh2 hb2 he2 c0 c3 c4 c5 c6
    go_wp2
    go_ret
    refine step_bad HB2.out hB ?_ (by decide)
    unfold stepE
    have h1 := HSTT.out
    have h2 := HO.out
    simp [HT.out, h1, h2, HN.out]
 ·have hstb : (st == 1) = false := by simp [hst]
  have HN := Lib.hid hst
  clear hst
  go_enter Tryz.func133, Tryz.ntmps133
  go_wp2_with fail
  rw [HW1.out]
  replace c0 := cell_keep HB1.out c0
  replace c3 := cell_keep HB1.out c3
  replace c4 := cell_keep HB1.out c4
  replace c5 := cell_keep HB1.out c5
  replace c6 := cell_keep HB1.out c6
  replace c7 := cell_keep HB1.out c7
  go_quiet (fail)
  generalize hw2 : World.drewN w1 nq = w2
  have hh2 : w2.heap = w1.heap := by rw [← hw2]; rfl
  have hb2 : Below w.heap.size w w2 := by rw [← hw2]; exact below_drewN HB1.out nq
  have HS2 : Hid (StAt w2 B tag g s bs va vs cs) := Lib.hid (HST.out.same (fun k _ => by rw [hh2]))
  have HZ2 : Hid (w2.heap.size = w.heap.size + 1) := Lib.hid (by rw [hh2]; exact HSZ.out)
  have he2 := HEX.out
  rw [← hh2] at he2
  replace E3 := heap_cell he2 (j := 3) rfl
  replace E4 := heap_cell he2 (j := 4) rfl
  have E0 := heap_cell he2 (j := 0) rfl
  have E1 := heap_cell he2 (j := 1) rfl
  have E2 := heap_cell he2 (j := 2) rfl
  have E5 := heap_cell he2 (j := 5) rfl
  have E6 := heap_cell he2 (j := 6) rfl
  have d0 := (show w2.cell? ⟨b, 0, none⟩ = w1.cell? ⟨b, 0, none⟩ by rw [← hw2]; rfl).trans c0
  have d3 := (show w2.cell? ⟨b, 3, none⟩ = w1.cell? ⟨b, 3, none⟩ by rw [← hw2]; rfl).trans c3
  have d4 := (show w2.cell? ⟨b, 4, none⟩ = w1.cell? ⟨b, 4, none⟩ by rw [← hw2]; rfl).trans c4
  have d5 := (show w2.cell? ⟨b, 5, none⟩ = w1.cell? ⟨b, 5, none⟩ by rw [← hw2]; rfl).trans c5
  have d6 := (show w2.cell? ⟨b, 6, none⟩ = w1.cell? ⟨b, 6, none⟩ by rw [← hw2]; rfl).trans c6
  have d7 := (show w2.cell? ⟨b, 7, none⟩ = w1.cell? ⟨b, 7, none⟩ by rw [← hw2]; rfl).trans c7
  have HB2 := Lib.hid hb2
  have HB2' : Hid (Below B w w2) := Lib.hid (hb2.mono hB)
  have HE2 := Lib.hid he2
  clear hw2 hh2 hb2 he2 c0 c3 c4 c5 c6
  go_wp2
  go_ret
  refine step_bad HB2.out hB ?_ (by decide)
  unfold stepE
  have h1 := HSTT.out
  have h2 := HO.out
  simp [HT.out, h1, h2, HN.out]
set_option maxRecDepth 100000 in
set_option maxHeartbeats 4000000 in
theorem step3 {w : World} {B : Nat} {tag : Nat → Nat} {g : Nat} {s : St} {bs : List Nat} {va vs : Value} {cs : Array Value} (h : StAt w B tag g s bs va vs cs) (hB : B ≤ w.heap.size) {i b : Nat} {x : Tx} (hi : bs[i]? = some b) (hx : s.all[i]? = some x) (ec ex et er em eq p : Int) (ht : ex = (i : Int) + 1) {n : Nat} (ho : TxOk x n) (hn : n ≤ 1000) (hr : resB et er = true) :
 Calls Tryz.prog 133 #[.pointer (some ⟨g, 0, none⟩), .pointer (some ⟨b, 0, none⟩), .agg #[.int .i64 3, .int .i64 ec, .int .i64 ex, .int .i64 et, .int .i64 er, .int .i64 em, .int .i64 eq], .int .i64 p] w fun r w' =>
  StepOf w w' B g (stepE s ⟨3, ec, ex, et, er, em, eq⟩ p) (stepS s ⟨3, ec, ex, et, er, em, eq⟩ p) r := by
 have HT := Lib.hid (tx_is hx ht)
 have HTX := Lib.hid ht
 have HTO := Lib.hid ho
 clear ho
 clear ht
 obtain ⟨mb, A, c1, lb, c0, _, c2, c3, c4, c5, c6, c7, _⟩ := (h.one hi hx).at
 have hf : ∀ j, w.frozen? ⟨b, j, none⟩ = false := by obtain ⟨_, _, h1, _⟩ := h.one hi hx; exact fun j => heap_free h1
 have nb : ¬ b = w.heap.size := by omega
 have nb' : ¬ w.heap.size = b := by omega
 obtain ⟨w1, hw1⟩ : ∃ W, w.alloc (.cells #[.int .i64 3, .int .i64 ec, .int .i64 ex, .int .i64 et, .int .i64 er, .int .i64 em, .int .i64 eq] 44) = W := ⟨_, rfl⟩
 have hb1 : Below w.heap.size w w1 := by rw [← hw1]; exact (Below.refl _ _).alloc (Nat.le_refl _) _
 have hs1 : w1.heap.size = w.heap.size + 1 := by rw [← hw1]; simp
 have he1 : w1.heap[w.heap.size]? = some (.cells #[.int .i64 3, .int .i64 ec, .int .i64 ex, .int .i64 et, .int .i64 er, .int .i64 em, .int .i64 eq] 44 (0, 0)) := by rw [← hw1, heap_push, if_pos rfl]
 have hst1 := h.below hb1
 have E3 := heap_cell he1 (j := 3) (u := .int .i64 et) rfl
 have E4 := heap_cell he1 (j := 4) (u := .int .i64 er) rfl
 have HW1 := Lib.hid hw1
 have HI := Lib.hid hi
 have HX := Lib.hid hx
 have HST := Lib.hid hst1
 have HB1 := Lib.hid hb1
 have HSZ := Lib.hid hs1
 have HEX := Lib.hid he1
 have HF := Lib.hid hf
 have HNE := Lib.hid (h.ne hi hx)
 have HH := Lib.hid h
 have H4 := Lib.hid c4
 have H5 := Lib.hid c5
 obtain ⟨st, hst⟩ : ∃ v, x.state = v := ⟨_, rfl⟩
 obtain ⟨op, hop⟩ : ∃ v, x.opn = v := ⟨_, rfl⟩
 obtain ⟨ak, hak⟩ : ∃ v, x.asked = v := ⟨_, rfl⟩
 obtain ⟨xt, hxt⟩ : ∃ v, x.table = v := ⟨_, rfl⟩
 obtain ⟨xr, hxr⟩ : ∃ v, x.row = v := ⟨_, rfl⟩
 rw [hst] at c0
 rw [hop] at c4
 rw [hak] at c3
 rw [hxt] at c5
 rw [hxr] at c6
 have HO := Lib.hid hop
 have HAK := Lib.hid hak
 have HSTT := Lib.hid hst
 have HXT := Lib.hid hxt
 have HXR := Lib.hid hxr
 clear hw1 hb1 hs1 he1 hst1 hi hx hf h hst hop hak hxt hxr
 by_cases hst : st = 1
 ·subst hst
  cases op with
  | false =>
   go_enter Tryz.func133, Tryz.ntmps133
   go_wp2_with fail
   rw [HW1.out]
   replace c0 := cell_keep HB1.out c0
   replace c3 := cell_keep HB1.out c3
   replace c4 := cell_keep HB1.out c4
   replace c5 := cell_keep HB1.out c5
   replace c6 := cell_keep HB1.out c6
   replace c7 := cell_keep HB1.out c7
   go_quiet (fail)
   generalize hw2 : World.drewN w1 nq = w2
   have hh2 : w2.heap = w1.heap := by rw [← hw2]; rfl
   have hb2 : Below w.heap.size w w2 := by rw [← hw2]; exact below_drewN HB1.out nq
   have HS2 : Hid (StAt w2 B tag g s bs va vs cs) := Lib.hid (HST.out.same (fun k _ => by rw [hh2]))
   have HZ2 : Hid (w2.heap.size = w.heap.size + 1) := Lib.hid (by rw [hh2]; exact HSZ.out)
   have he2 := HEX.out
   rw [← hh2] at he2
   replace E3 := heap_cell he2 (j := 3) rfl
   replace E4 := heap_cell he2 (j := 4) rfl
   have E0 := heap_cell he2 (j := 0) rfl
   have E1 := heap_cell he2 (j := 1) rfl
   have E2 := heap_cell he2 (j := 2) rfl
   have E5 := heap_cell he2 (j := 5) rfl
   have E6 := heap_cell he2 (j := 6) rfl
   have d0 := (show w2.cell? ⟨b, 0, none⟩ = w1.cell? ⟨b, 0, none⟩ by rw [← hw2]; rfl).trans c0
   have d3 := (show w2.cell? ⟨b, 3, none⟩ = w1.cell? ⟨b, 3, none⟩ by rw [← hw2]; rfl).trans c3
   have d4 := (show w2.cell? ⟨b, 4, none⟩ = w1.cell? ⟨b, 4, none⟩ by rw [← hw2]; rfl).trans c4
   have d5 := (show w2.cell? ⟨b, 5, none⟩ = w1.cell? ⟨b, 5, none⟩ by rw [← hw2]; rfl).trans c5
   have d6 := (show w2.cell? ⟨b, 6, none⟩ = w1.cell? ⟨b, 6, none⟩ by rw [← hw2]; rfl).trans c6
   have d7 := (show w2.cell? ⟨b, 7, none⟩ = w1.cell? ⟨b, 7, none⟩ by rw [← hw2]; rfl).trans c7
   have HB2 := Lib.hid hb2
   have HB2' : Hid (Below B w w2) := Lib.hid (hb2.mono hB)
   have HE2 := Lib.hid he2
   clear hw2 hh2 hb2 he2 c0 c3 c4 c5 c6
   go_wp2
   go_ret
   refine step_bad HB2.out hB ?_ (by decide)
   unfold stepE
   have h1 := HSTT.out
   have h2 := HO.out
   simp [HT.out, h1, h2]
  | true =>
   by_cases e1 : xt = et
   ·by_cases e2 : xr = er
    ·subst e1 e2
     go_enter Tryz.func133, Tryz.ntmps133
     go_wp2_with fail
     rw [HW1.out]
     replace c0 := cell_keep HB1.out c0
     replace c3 := cell_keep HB1.out c3
     replace c4 := cell_keep HB1.out c4
     replace c5 := cell_keep HB1.out c5
     replace c6 := cell_keep HB1.out c6
     replace c7 := cell_keep HB1.out c7
     go_quiet (fail)
     generalize hw2 : World.drewN w1 nq = w2
     have hh2 : w2.heap = w1.heap := by rw [← hw2]; rfl
     have hb2 : Below w.heap.size w w2 := by rw [← hw2]; exact below_drewN HB1.out nq
     have HS2 : Hid (StAt w2 B tag g s bs va vs cs) := Lib.hid (HST.out.same (fun k _ => by rw [hh2]))
     have HZ2 : Hid (w2.heap.size = w.heap.size + 1) := Lib.hid (by rw [hh2]; exact HSZ.out)
     have he2 := HEX.out
     rw [← hh2] at he2
     replace E3 := heap_cell he2 (j := 3) rfl
     replace E4 := heap_cell he2 (j := 4) rfl
     have E0 := heap_cell he2 (j := 0) rfl
     have E1 := heap_cell he2 (j := 1) rfl
     have E2 := heap_cell he2 (j := 2) rfl
     have E5 := heap_cell he2 (j := 5) rfl
     have E6 := heap_cell he2 (j := 6) rfl
     have d0 := (show w2.cell? ⟨b, 0, none⟩ = w1.cell? ⟨b, 0, none⟩ by rw [← hw2]; rfl).trans c0
     have d3 := (show w2.cell? ⟨b, 3, none⟩ = w1.cell? ⟨b, 3, none⟩ by rw [← hw2]; rfl).trans c3
     have d4 := (show w2.cell? ⟨b, 4, none⟩ = w1.cell? ⟨b, 4, none⟩ by rw [← hw2]; rfl).trans c4
     have d5 := (show w2.cell? ⟨b, 5, none⟩ = w1.cell? ⟨b, 5, none⟩ by rw [← hw2]; rfl).trans c5
     have d6 := (show w2.cell? ⟨b, 6, none⟩ = w1.cell? ⟨b, 6, none⟩ by rw [← hw2]; rfl).trans c6
     have d7 := (show w2.cell? ⟨b, 7, none⟩ = w1.cell? ⟨b, 7, none⟩ by rw [← hw2]; rfl).trans c7
     have HB2 := Lib.hid hb2
     have HB2' : Hid (Below B w w2) := Lib.hid (hb2.mono hB)
     have HE2 := Lib.hid he2
     clear hw2 hh2 hb2 he2 c0 c3 c4 c5 c6
     have HC := Lib.hid (granted_st HS2.out (by have := HZ2.out; omega) HI.out HX.out HTO.out hn ⟨3, ec, ex, xt, xr, em, eq⟩ rfl hr p)
     obtain ⟨kk, hkk⟩ : ∃ kk : Int, (if grantB x ⟨3, ec, ex, xt, xr, em, eq⟩ then (0 : Int) else 11) = kk := ⟨_, rfl⟩
     rw [hkk] at HC
     have HKK := Lib.hid hkk
     clear hkk
     go_wp2_with (go_at_call 144; refine HC.out.mono ?_; rintro r w5 ⟨rfl, hb5, hs5⟩)
     go_ret
     have hE : stepE s ⟨3, ec, ex, xt, xr, em, eq⟩ p = kk := by
      rw [← HKK.out]
      unfold stepE
      have h1 := HSTT.out
      have h2 := HO.out
      have h4 := HXT.out
      have h5 := HXR.out
      simp [HT.out, h1, h2, h4, h5]
     rw [hE, stepS_3 HT.out HTX.out]
     exact ⟨rfl, HB2'.out.trans hb5, hs5⟩
    ·have e2b : (xr == er) = false := by simp [e2]
     subst e1
     have HN : Hid (¬ (x.table = xt ∧ x.row = er)) := Lib.hid (by rw [HXR.out]; exact fun h => e2 h.2)
     clear e2
     go_enter Tryz.func133, Tryz.ntmps133
     go_wp2_with fail
     rw [HW1.out]
     replace c0 := cell_keep HB1.out c0
     replace c3 := cell_keep HB1.out c3
     replace c4 := cell_keep HB1.out c4
     replace c5 := cell_keep HB1.out c5
     replace c6 := cell_keep HB1.out c6
     replace c7 := cell_keep HB1.out c7
     go_quiet (fail)
     generalize hw2 : World.drewN w1 nq = w2
     have hh2 : w2.heap = w1.heap := by rw [← hw2]; rfl
     have hb2 : Below w.heap.size w w2 := by rw [← hw2]; exact below_drewN HB1.out nq
     have HS2 : Hid (StAt w2 B tag g s bs va vs cs) := Lib.hid (HST.out.same (fun k _ => by rw [hh2]))
     have HZ2 : Hid (w2.heap.size = w.heap.size + 1) := Lib.hid (by rw [hh2]; exact HSZ.out)
     have he2 := HEX.out
     rw [← hh2] at he2
     replace E3 := heap_cell he2 (j := 3) rfl
     replace E4 := heap_cell he2 (j := 4) rfl
     have E0 := heap_cell he2 (j := 0) rfl
     have E1 := heap_cell he2 (j := 1) rfl
     have E2 := heap_cell he2 (j := 2) rfl
     have E5 := heap_cell he2 (j := 5) rfl
     have E6 := heap_cell he2 (j := 6) rfl
     have d0 := (show w2.cell? ⟨b, 0, none⟩ = w1.cell? ⟨b, 0, none⟩ by rw [← hw2]; rfl).trans c0
     have d3 := (show w2.cell? ⟨b, 3, none⟩ = w1.cell? ⟨b, 3, none⟩ by rw [← hw2]; rfl).trans c3
     have d4 := (show w2.cell? ⟨b, 4, none⟩ = w1.cell? ⟨b, 4, none⟩ by rw [← hw2]; rfl).trans c4
     have d5 := (show w2.cell? ⟨b, 5, none⟩ = w1.cell? ⟨b, 5, none⟩ by rw [← hw2]; rfl).trans c5
     have d6 := (show w2.cell? ⟨b, 6, none⟩ = w1.cell? ⟨b, 6, none⟩ by rw [← hw2]; rfl).trans c6
     have d7 := (show w2.cell? ⟨b, 7, none⟩ = w1.cell? ⟨b, 7, none⟩ by rw [← hw2]; rfl).trans c7
     have HB2 := Lib.hid hb2
     have HB2' : Hid (Below B w w2) := Lib.hid (hb2.mono hB)
     have HE2 := Lib.hid he2
     clear hw2 hh2 hb2 he2 c0 c3 c4 c5 c6
     go_wp2
     go_ret
     refine step_bad HB2.out hB ?_ (by decide)
     unfold stepE
     have h1 := HSTT.out
     have h2 := HO.out
     simp [HT.out, h1, h2, HN.out]
   ·have e1b : (xt == et) = false := by simp [e1]
    have HN : Hid (¬ (x.table = et ∧ x.row = er)) := Lib.hid (by rw [HXT.out]; exact fun h => e1 h.1)
    clear e1
    go_enter Tryz.func133, Tryz.ntmps133
    go_wp2_with fail
    rw [HW1.out]
    replace c0 := cell_keep HB1.out c0
    replace c3 := cell_keep HB1.out c3
    replace c4 := cell_keep HB1.out c4
    replace c5 := cell_keep HB1.out c5
    replace c6 := cell_keep HB1.out c6
    replace c7 := cell_keep HB1.out c7
    go_quiet (fail)
    generalize hw2 : World.drewN w1 nq = w2
    have hh2 : w2.heap = w1.heap := by rw [← hw2]; rfl
    have hb2 : Below w.heap.size w w2 := by rw [← hw2]; exact below_drewN HB1.out nq
    have HS2 : Hid (StAt w2 B tag g s bs va vs cs) := Lib.hid (HST.out.same (fun k _ => by rw [hh2]))
    have HZ2 : Hid (w2.heap.size = w.heap.size + 1) := Lib.hid (by rw [hh2]; exact HSZ.out)
    have he2 := HEX.out
    rw [← hh2] at he2
    replace E3 := heap_cell he2 (j := 3) rfl
    replace E4 := heap_cell he2 (j := 4) rfl
    have E0 := heap_cell he2 (j := 0) rfl
    have E1 := heap_cell he2 (j := 1) rfl
    have E2 := heap_cell he2 (j := 2) rfl
    have E5 := heap_cell he2 (j := 5) rfl
    have E6 := heap_cell he2 (j := 6) rfl
    have d0 := (show w2.cell? ⟨b, 0, none⟩ = w1.cell? ⟨b, 0, none⟩ by rw [← hw2]; rfl).trans c0
    have d3 := (show w2.cell? ⟨b, 3, none⟩ = w1.cell? ⟨b, 3, none⟩ by rw [← hw2]; rfl).trans c3
    have d4 := (show w2.cell? ⟨b, 4, none⟩ = w1.cell? ⟨b, 4, none⟩ by rw [← hw2]; rfl).trans c4
    have d5 := (show w2.cell? ⟨b, 5, none⟩ = w1.cell? ⟨b, 5, none⟩ by rw [← hw2]; rfl).trans c5
    have d6 := (show w2.cell? ⟨b, 6, none⟩ = w1.cell? ⟨b, 6, none⟩ by rw [← hw2]; rfl).trans c6
    have d7 := (show w2.cell? ⟨b, 7, none⟩ = w1.cell? ⟨b, 7, none⟩ by rw [← hw2]; rfl).trans c7
    have HB2 := Lib.hid hb2
    have HB2' : Hid (Below B w w2) := Lib.hid (hb2.mono hB)
    have HE2 := Lib.hid he2
    clear hw2 hh2 hb2 he2 c0 c3 c4 c5 c6
    go_wp2
    go_ret
    refine step_bad HB2.out hB ?_ (by decide)
    unfold stepE
    have h1 := HSTT.out
    have h2 := HO.out
    simp [HT.out, h1, h2, HN.out]
 ·have hstb : (st == 1) = false := by simp [hst]
  have HN := Lib.hid hst
  clear hst
  go_enter Tryz.func133, Tryz.ntmps133
  go_wp2_with fail
  rw [HW1.out]
  replace c0 := cell_keep HB1.out c0
  replace c3 := cell_keep HB1.out c3
  replace c4 := cell_keep HB1.out c4
  replace c5 := cell_keep HB1.out c5
  replace c6 := cell_keep HB1.out c6
  replace c7 := cell_keep HB1.out c7
  go_quiet (fail)
  generalize hw2 : World.drewN w1 nq = w2
  have hh2 : w2.heap = w1.heap := by rw [← hw2]; rfl
  have hb2 : Below w.heap.size w w2 := by rw [← hw2]; exact below_drewN HB1.out nq
  have HS2 : Hid (StAt w2 B tag g s bs va vs cs) := Lib.hid (HST.out.same (fun k _ => by rw [hh2]))
  have HZ2 : Hid (w2.heap.size = w.heap.size + 1) := Lib.hid (by rw [hh2]; exact HSZ.out)
  have he2 := HEX.out
  rw [← hh2] at he2
  replace E3 := heap_cell he2 (j := 3) rfl
  replace E4 := heap_cell he2 (j := 4) rfl
  have E0 := heap_cell he2 (j := 0) rfl
  have E1 := heap_cell he2 (j := 1) rfl
  have E2 := heap_cell he2 (j := 2) rfl
  have E5 := heap_cell he2 (j := 5) rfl
  have E6 := heap_cell he2 (j := 6) rfl
  have d0 := (show w2.cell? ⟨b, 0, none⟩ = w1.cell? ⟨b, 0, none⟩ by rw [← hw2]; rfl).trans c0
  have d3 := (show w2.cell? ⟨b, 3, none⟩ = w1.cell? ⟨b, 3, none⟩ by rw [← hw2]; rfl).trans c3
  have d4 := (show w2.cell? ⟨b, 4, none⟩ = w1.cell? ⟨b, 4, none⟩ by rw [← hw2]; rfl).trans c4
  have d5 := (show w2.cell? ⟨b, 5, none⟩ = w1.cell? ⟨b, 5, none⟩ by rw [← hw2]; rfl).trans c5
  have d6 := (show w2.cell? ⟨b, 6, none⟩ = w1.cell? ⟨b, 6, none⟩ by rw [← hw2]; rfl).trans c6
  have d7 := (show w2.cell? ⟨b, 7, none⟩ = w1.cell? ⟨b, 7, none⟩ by rw [← hw2]; rfl).trans c7
  have HB2 := Lib.hid hb2
  have HB2' : Hid (Below B w w2) := Lib.hid (hb2.mono hB)
  have HE2 := Lib.hid he2
  clear hw2 hh2 hb2 he2 c0 c3 c4 c5 c6
  go_wp2
  go_ret
  refine step_bad HB2.out hB ?_ (by decide)
  unfold stepE
  have h1 := HSTT.out
  have h2 := HO.out
  simp [HT.out, h1, h2, HN.out]
set_option maxRecDepth 100000 in
set_option maxHeartbeats 4000000 in
theorem step6 {w : World} {B : Nat} {tag : Nat → Nat} {g : Nat} {s : St} {bs : List Nat} {va vs : Value} {cs : Array Value} (h : StAt w B tag g s bs va vs cs) (hB : B ≤ w.heap.size) {i b : Nat} {x : Tx} (hi : bs[i]? = some b) (hx : s.all[i]? = some x) (ec ex et er em eq p : Int) (ht : ex = (i : Int) + 1) {n : Nat} (hok : StOk s n) (hn : n ≤ 1000) (h3 : Ser3 s) (hs : ¬ x.state = 3) :
 Calls Tryz.prog 133 #[.pointer (some ⟨g, 0, none⟩), .pointer (some ⟨b, 0, none⟩), .agg #[.int .i64 6, .int .i64 ec, .int .i64 ex, .int .i64 et, .int .i64 er, .int .i64 em, .int .i64 eq], .int .i64 p] w fun r w' =>
  StepOf w w' B g (stepE s ⟨6, ec, ex, et, er, em, eq⟩ p) (stepS s ⟨6, ec, ex, et, er, em, eq⟩ p) r := by
 have HT := Lib.hid (tx_is hx ht)
 have HTX := Lib.hid ht
 have HOK := Lib.hid hok
 have H3 := Lib.hid h3
 have HN3 := Lib.hid hs
 clear hok h3 hs
 clear ht
 obtain ⟨mb, A, c1, lb, c0, _, c2, c3, c4, c5, c6, c7, _⟩ := (h.one hi hx).at
 have hf : ∀ j, w.frozen? ⟨b, j, none⟩ = false := by obtain ⟨_, _, h1, _⟩ := h.one hi hx; exact fun j => heap_free h1
 have nb : ¬ b = w.heap.size := by omega
 have nb' : ¬ w.heap.size = b := by omega
 obtain ⟨w1, hw1⟩ : ∃ W, w.alloc (.cells #[.int .i64 6, .int .i64 ec, .int .i64 ex, .int .i64 et, .int .i64 er, .int .i64 em, .int .i64 eq] 44) = W := ⟨_, rfl⟩
 have hb1 : Below w.heap.size w w1 := by rw [← hw1]; exact (Below.refl _ _).alloc (Nat.le_refl _) _
 have hs1 : w1.heap.size = w.heap.size + 1 := by rw [← hw1]; simp
 have he1 : w1.heap[w.heap.size]? = some (.cells #[.int .i64 6, .int .i64 ec, .int .i64 ex, .int .i64 et, .int .i64 er, .int .i64 em, .int .i64 eq] 44 (0, 0)) := by rw [← hw1, heap_push, if_pos rfl]
 have hst1 := h.below hb1
 have E3 := heap_cell he1 (j := 3) (u := .int .i64 et) rfl
 have E4 := heap_cell he1 (j := 4) (u := .int .i64 er) rfl
 have HW1 := Lib.hid hw1
 have HI := Lib.hid hi
 have HX := Lib.hid hx
 have HST := Lib.hid hst1
 have HB1 := Lib.hid hb1
 have HSZ := Lib.hid hs1
 have HEX := Lib.hid he1
 have HF := Lib.hid hf
 have HNE := Lib.hid (h.ne hi hx)
 have HH := Lib.hid h
 have H4 := Lib.hid c4
 have H5 := Lib.hid c5
 obtain ⟨st, hst⟩ : ∃ v, x.state = v := ⟨_, rfl⟩
 obtain ⟨op, hop⟩ : ∃ v, x.opn = v := ⟨_, rfl⟩
 obtain ⟨ak, hak⟩ : ∃ v, x.asked = v := ⟨_, rfl⟩
 obtain ⟨xt, hxt⟩ : ∃ v, x.table = v := ⟨_, rfl⟩
 obtain ⟨xr, hxr⟩ : ∃ v, x.row = v := ⟨_, rfl⟩
 rw [hst] at c0
 rw [hop] at c4
 rw [hak] at c3
 rw [hxt] at c5
 rw [hxr] at c6
 have HO := Lib.hid hop
 have HAK := Lib.hid hak
 have HSTT := Lib.hid hst
 have HXT := Lib.hid hxt
 have HXR := Lib.hid hxr
 clear hw1 hb1 hs1 he1 hst1 hi hx hf h hst hop hak hxt hxr
 by_cases hst : st = 1
 ·subst hst
  cases op with
  | false =>
   go_enter Tryz.func133, Tryz.ntmps133
   go_wp2_with fail
   rw [HW1.out]
   replace c0 := cell_keep HB1.out c0
   replace c3 := cell_keep HB1.out c3
   replace c4 := cell_keep HB1.out c4
   replace c5 := cell_keep HB1.out c5
   replace c6 := cell_keep HB1.out c6
   replace c7 := cell_keep HB1.out c7
   go_quiet (fail)
   generalize hw2 : World.drewN w1 nq = w2
   have hh2 : w2.heap = w1.heap := by rw [← hw2]; rfl
   have hb2 : Below w.heap.size w w2 := by rw [← hw2]; exact below_drewN HB1.out nq
   have HS2 : Hid (StAt w2 B tag g s bs va vs cs) := Lib.hid (HST.out.same (fun k _ => by rw [hh2]))
   have HZ2 : Hid (w2.heap.size = w.heap.size + 1) := Lib.hid (by rw [hh2]; exact HSZ.out)
   have he2 := HEX.out
   rw [← hh2] at he2
   replace E3 := heap_cell he2 (j := 3) rfl
   replace E4 := heap_cell he2 (j := 4) rfl
   have E0 := heap_cell he2 (j := 0) rfl
   have E1 := heap_cell he2 (j := 1) rfl
   have E2 := heap_cell he2 (j := 2) rfl
   have E5 := heap_cell he2 (j := 5) rfl
   have E6 := heap_cell he2 (j := 6) rfl
   have d0 := (show w2.cell? ⟨b, 0, none⟩ = w1.cell? ⟨b, 0, none⟩ by rw [← hw2]; rfl).trans c0
   have d3 := (show w2.cell? ⟨b, 3, none⟩ = w1.cell? ⟨b, 3, none⟩ by rw [← hw2]; rfl).trans c3
   have d4 := (show w2.cell? ⟨b, 4, none⟩ = w1.cell? ⟨b, 4, none⟩ by rw [← hw2]; rfl).trans c4
   have d5 := (show w2.cell? ⟨b, 5, none⟩ = w1.cell? ⟨b, 5, none⟩ by rw [← hw2]; rfl).trans c5
   have d6 := (show w2.cell? ⟨b, 6, none⟩ = w1.cell? ⟨b, 6, none⟩ by rw [← hw2]; rfl).trans c6
   have d7 := (show w2.cell? ⟨b, 7, none⟩ = w1.cell? ⟨b, 7, none⟩ by rw [← hw2]; rfl).trans c7
   have HB2 := Lib.hid hb2
   have HB2' : Hid (Below B w w2) := Lib.hid (hb2.mono hB)
   have HE2 := Lib.hid he2
   clear hw2 hh2 hb2 he2 c0 c3 c4 c5 c6
   have HC := Lib.hid (comm_st HS2.out (by have := HZ2.out; omega) HI.out HX.out HOK.out hn H3.out HN3.out ec ex et er em eq p HTX.out)
   obtain ⟨kk, hkk⟩ : ∃ kk : Int, stepE s ⟨6, ec, ex, et, er, em, eq⟩ p = kk := ⟨_, rfl⟩
   rw [hkk] at HC
   have HKK := Lib.hid hkk
   clear hkk
   go_wp2_with (go_at_call 145; refine HC.out.mono ?_; rintro r w5 ⟨rfl, hb5, hs5⟩)
   go_ret
   rw [HKK.out]
   exact ⟨rfl, HB2'.out.trans hb5, hs5⟩
  | true =>
   by_cases e1 : xt = et
   ·by_cases e2 : xr = er
    ·subst e1 e2
     go_enter Tryz.func133, Tryz.ntmps133
     go_wp2_with fail
     rw [HW1.out]
     replace c0 := cell_keep HB1.out c0
     replace c3 := cell_keep HB1.out c3
     replace c4 := cell_keep HB1.out c4
     replace c5 := cell_keep HB1.out c5
     replace c6 := cell_keep HB1.out c6
     replace c7 := cell_keep HB1.out c7
     go_quiet (fail)
     generalize hw2 : World.drewN w1 nq = w2
     have hh2 : w2.heap = w1.heap := by rw [← hw2]; rfl
     have hb2 : Below w.heap.size w w2 := by rw [← hw2]; exact below_drewN HB1.out nq
     have HS2 : Hid (StAt w2 B tag g s bs va vs cs) := Lib.hid (HST.out.same (fun k _ => by rw [hh2]))
     have HZ2 : Hid (w2.heap.size = w.heap.size + 1) := Lib.hid (by rw [hh2]; exact HSZ.out)
     have he2 := HEX.out
     rw [← hh2] at he2
     replace E3 := heap_cell he2 (j := 3) rfl
     replace E4 := heap_cell he2 (j := 4) rfl
     have E0 := heap_cell he2 (j := 0) rfl
     have E1 := heap_cell he2 (j := 1) rfl
     have E2 := heap_cell he2 (j := 2) rfl
     have E5 := heap_cell he2 (j := 5) rfl
     have E6 := heap_cell he2 (j := 6) rfl
     have d0 := (show w2.cell? ⟨b, 0, none⟩ = w1.cell? ⟨b, 0, none⟩ by rw [← hw2]; rfl).trans c0
     have d3 := (show w2.cell? ⟨b, 3, none⟩ = w1.cell? ⟨b, 3, none⟩ by rw [← hw2]; rfl).trans c3
     have d4 := (show w2.cell? ⟨b, 4, none⟩ = w1.cell? ⟨b, 4, none⟩ by rw [← hw2]; rfl).trans c4
     have d5 := (show w2.cell? ⟨b, 5, none⟩ = w1.cell? ⟨b, 5, none⟩ by rw [← hw2]; rfl).trans c5
     have d6 := (show w2.cell? ⟨b, 6, none⟩ = w1.cell? ⟨b, 6, none⟩ by rw [← hw2]; rfl).trans c6
     have d7 := (show w2.cell? ⟨b, 7, none⟩ = w1.cell? ⟨b, 7, none⟩ by rw [← hw2]; rfl).trans c7
     have HB2 := Lib.hid hb2
     have HB2' : Hid (Below B w w2) := Lib.hid (hb2.mono hB)
     have HE2 := Lib.hid he2
     clear hw2 hh2 hb2 he2 c0 c3 c4 c5 c6
     have HC := Lib.hid (comm_st HS2.out (by have := HZ2.out; omega) HI.out HX.out HOK.out hn H3.out HN3.out ec ex xt xr em eq p HTX.out)
     obtain ⟨kk, hkk⟩ : ∃ kk : Int, stepE s ⟨6, ec, ex, xt, xr, em, eq⟩ p = kk := ⟨_, rfl⟩
     rw [hkk] at HC
     have HKK := Lib.hid hkk
     clear hkk
     go_wp2_with (go_at_call 145; refine HC.out.mono ?_; rintro r w5 ⟨rfl, hb5, hs5⟩)
     go_ret
     rw [HKK.out]
     exact ⟨rfl, HB2'.out.trans hb5, hs5⟩
    ·have e2b : (xr == er) = false := by simp [e2]
     subst e1
     clear e2
     go_enter Tryz.func133, Tryz.ntmps133
     go_wp2_with fail
     rw [HW1.out]
     replace c0 := cell_keep HB1.out c0
     replace c3 := cell_keep HB1.out c3
     replace c4 := cell_keep HB1.out c4
     replace c5 := cell_keep HB1.out c5
     replace c6 := cell_keep HB1.out c6
     replace c7 := cell_keep HB1.out c7
     go_quiet (fail)
     generalize hw2 : World.drewN w1 nq = w2
     have hh2 : w2.heap = w1.heap := by rw [← hw2]; rfl
     have hb2 : Below w.heap.size w w2 := by rw [← hw2]; exact below_drewN HB1.out nq
     have HS2 : Hid (StAt w2 B tag g s bs va vs cs) := Lib.hid (HST.out.same (fun k _ => by rw [hh2]))
     have HZ2 : Hid (w2.heap.size = w.heap.size + 1) := Lib.hid (by rw [hh2]; exact HSZ.out)
     have he2 := HEX.out
     rw [← hh2] at he2
     replace E3 := heap_cell he2 (j := 3) rfl
     replace E4 := heap_cell he2 (j := 4) rfl
     have E0 := heap_cell he2 (j := 0) rfl
     have E1 := heap_cell he2 (j := 1) rfl
     have E2 := heap_cell he2 (j := 2) rfl
     have E5 := heap_cell he2 (j := 5) rfl
     have E6 := heap_cell he2 (j := 6) rfl
     have d0 := (show w2.cell? ⟨b, 0, none⟩ = w1.cell? ⟨b, 0, none⟩ by rw [← hw2]; rfl).trans c0
     have d3 := (show w2.cell? ⟨b, 3, none⟩ = w1.cell? ⟨b, 3, none⟩ by rw [← hw2]; rfl).trans c3
     have d4 := (show w2.cell? ⟨b, 4, none⟩ = w1.cell? ⟨b, 4, none⟩ by rw [← hw2]; rfl).trans c4
     have d5 := (show w2.cell? ⟨b, 5, none⟩ = w1.cell? ⟨b, 5, none⟩ by rw [← hw2]; rfl).trans c5
     have d6 := (show w2.cell? ⟨b, 6, none⟩ = w1.cell? ⟨b, 6, none⟩ by rw [← hw2]; rfl).trans c6
     have d7 := (show w2.cell? ⟨b, 7, none⟩ = w1.cell? ⟨b, 7, none⟩ by rw [← hw2]; rfl).trans c7
     have HB2 := Lib.hid hb2
     have HB2' : Hid (Below B w w2) := Lib.hid (hb2.mono hB)
     have HE2 := Lib.hid he2
     clear hw2 hh2 hb2 he2 c0 c3 c4 c5 c6
     have HC := Lib.hid (comm_st HS2.out (by have := HZ2.out; omega) HI.out HX.out HOK.out hn H3.out HN3.out ec ex xt er em eq p HTX.out)
     obtain ⟨kk, hkk⟩ : ∃ kk : Int, stepE s ⟨6, ec, ex, xt, er, em, eq⟩ p = kk := ⟨_, rfl⟩
     rw [hkk] at HC
     have HKK := Lib.hid hkk
     clear hkk
     go_wp2_with (go_at_call 145; refine HC.out.mono ?_; rintro r w5 ⟨rfl, hb5, hs5⟩)
     go_ret
     rw [HKK.out]
     exact ⟨rfl, HB2'.out.trans hb5, hs5⟩
   ·have e1b : (xt == et) = false := by simp [e1]
    clear e1
    go_enter Tryz.func133, Tryz.ntmps133
    go_wp2_with fail
    rw [HW1.out]
    replace c0 := cell_keep HB1.out c0
    replace c3 := cell_keep HB1.out c3
    replace c4 := cell_keep HB1.out c4
    replace c5 := cell_keep HB1.out c5
    replace c6 := cell_keep HB1.out c6
    replace c7 := cell_keep HB1.out c7
    go_quiet (fail)
    generalize hw2 : World.drewN w1 nq = w2
    have hh2 : w2.heap = w1.heap := by rw [← hw2]; rfl
    have hb2 : Below w.heap.size w w2 := by rw [← hw2]; exact below_drewN HB1.out nq
    have HS2 : Hid (StAt w2 B tag g s bs va vs cs) := Lib.hid (HST.out.same (fun k _ => by rw [hh2]))
    have HZ2 : Hid (w2.heap.size = w.heap.size + 1) := Lib.hid (by rw [hh2]; exact HSZ.out)
    have he2 := HEX.out
    rw [← hh2] at he2
    replace E3 := heap_cell he2 (j := 3) rfl
    replace E4 := heap_cell he2 (j := 4) rfl
    have E0 := heap_cell he2 (j := 0) rfl
    have E1 := heap_cell he2 (j := 1) rfl
    have E2 := heap_cell he2 (j := 2) rfl
    have E5 := heap_cell he2 (j := 5) rfl
    have E6 := heap_cell he2 (j := 6) rfl
    have d0 := (show w2.cell? ⟨b, 0, none⟩ = w1.cell? ⟨b, 0, none⟩ by rw [← hw2]; rfl).trans c0
    have d3 := (show w2.cell? ⟨b, 3, none⟩ = w1.cell? ⟨b, 3, none⟩ by rw [← hw2]; rfl).trans c3
    have d4 := (show w2.cell? ⟨b, 4, none⟩ = w1.cell? ⟨b, 4, none⟩ by rw [← hw2]; rfl).trans c4
    have d5 := (show w2.cell? ⟨b, 5, none⟩ = w1.cell? ⟨b, 5, none⟩ by rw [← hw2]; rfl).trans c5
    have d6 := (show w2.cell? ⟨b, 6, none⟩ = w1.cell? ⟨b, 6, none⟩ by rw [← hw2]; rfl).trans c6
    have d7 := (show w2.cell? ⟨b, 7, none⟩ = w1.cell? ⟨b, 7, none⟩ by rw [← hw2]; rfl).trans c7
    have HB2 := Lib.hid hb2
    have HB2' : Hid (Below B w w2) := Lib.hid (hb2.mono hB)
    have HE2 := Lib.hid he2
    clear hw2 hh2 hb2 he2 c0 c3 c4 c5 c6
    have HC := Lib.hid (comm_st HS2.out (by have := HZ2.out; omega) HI.out HX.out HOK.out hn H3.out HN3.out ec ex et er em eq p HTX.out)
    obtain ⟨kk, hkk⟩ : ∃ kk : Int, stepE s ⟨6, ec, ex, et, er, em, eq⟩ p = kk := ⟨_, rfl⟩
    rw [hkk] at HC
    have HKK := Lib.hid hkk
    clear hkk
    go_wp2_with (go_at_call 145; refine HC.out.mono ?_; rintro r w5 ⟨rfl, hb5, hs5⟩)
    go_ret
    rw [HKK.out]
    exact ⟨rfl, HB2'.out.trans hb5, hs5⟩
 ·have hstb : (st == 1) = false := by simp [hst]
  clear hst
  go_enter Tryz.func133, Tryz.ntmps133
  go_wp2_with fail
  rw [HW1.out]
  replace c0 := cell_keep HB1.out c0
  replace c3 := cell_keep HB1.out c3
  replace c4 := cell_keep HB1.out c4
  replace c5 := cell_keep HB1.out c5
  replace c6 := cell_keep HB1.out c6
  replace c7 := cell_keep HB1.out c7
  go_quiet (fail)
  generalize hw2 : World.drewN w1 nq = w2
  have hh2 : w2.heap = w1.heap := by rw [← hw2]; rfl
  have hb2 : Below w.heap.size w w2 := by rw [← hw2]; exact below_drewN HB1.out nq
  have HS2 : Hid (StAt w2 B tag g s bs va vs cs) := Lib.hid (HST.out.same (fun k _ => by rw [hh2]))
  have HZ2 : Hid (w2.heap.size = w.heap.size + 1) := Lib.hid (by rw [hh2]; exact HSZ.out)
  have he2 := HEX.out
  rw [← hh2] at he2
  replace E3 := heap_cell he2 (j := 3) rfl
  replace E4 := heap_cell he2 (j := 4) rfl
  have E0 := heap_cell he2 (j := 0) rfl
  have E1 := heap_cell he2 (j := 1) rfl
  have E2 := heap_cell he2 (j := 2) rfl
  have E5 := heap_cell he2 (j := 5) rfl
  have E6 := heap_cell he2 (j := 6) rfl
  have d0 := (show w2.cell? ⟨b, 0, none⟩ = w1.cell? ⟨b, 0, none⟩ by rw [← hw2]; rfl).trans c0
  have d3 := (show w2.cell? ⟨b, 3, none⟩ = w1.cell? ⟨b, 3, none⟩ by rw [← hw2]; rfl).trans c3
  have d4 := (show w2.cell? ⟨b, 4, none⟩ = w1.cell? ⟨b, 4, none⟩ by rw [← hw2]; rfl).trans c4
  have d5 := (show w2.cell? ⟨b, 5, none⟩ = w1.cell? ⟨b, 5, none⟩ by rw [← hw2]; rfl).trans c5
  have d6 := (show w2.cell? ⟨b, 6, none⟩ = w1.cell? ⟨b, 6, none⟩ by rw [← hw2]; rfl).trans c6
  have d7 := (show w2.cell? ⟨b, 7, none⟩ = w1.cell? ⟨b, 7, none⟩ by rw [← hw2]; rfl).trans c7
  have HB2 := Lib.hid hb2
  have HB2' : Hid (Below B w w2) := Lib.hid (hb2.mono hB)
  have HE2 := Lib.hid he2
  clear hw2 hh2 hb2 he2 c0 c3 c4 c5 c6
  have HC := Lib.hid (comm_st HS2.out (by have := HZ2.out; omega) HI.out HX.out HOK.out hn H3.out HN3.out ec ex et er em eq p HTX.out)
  obtain ⟨kk, hkk⟩ : ∃ kk : Int, stepE s ⟨6, ec, ex, et, er, em, eq⟩ p = kk := ⟨_, rfl⟩
  rw [hkk] at HC
  have HKK := Lib.hid hkk
  clear hkk
  go_wp2_with (go_at_call 145; refine HC.out.mono ?_; rintro r w5 ⟨rfl, hb5, hs5⟩)
  go_ret
  rw [HKK.out]
  exact ⟨rfl, HB2'.out.trans hb5, hs5⟩
set_option maxRecDepth 100000 in
set_option maxHeartbeats 4000000 in
theorem step7 {w : World} {B : Nat} {tag : Nat → Nat} {g : Nat} {s : St} {bs : List Nat} {va vs : Value} {cs : Array Value} (h : StAt w B tag g s bs va vs cs) (hB : B ≤ w.heap.size) {i b : Nat} {x : Tx} (hi : bs[i]? = some b) (hx : s.all[i]? = some x) (ec ex et er em eq p : Int) (ht : ex = (i : Int) + 1) {n : Nat} (ho : TxOk x n) :
 Calls Tryz.prog 133 #[.pointer (some ⟨g, 0, none⟩), .pointer (some ⟨b, 0, none⟩), .agg #[.int .i64 7, .int .i64 ec, .int .i64 ex, .int .i64 et, .int .i64 er, .int .i64 em, .int .i64 eq], .int .i64 p] w fun r w' =>
  StepOf w w' B g (stepE s ⟨7, ec, ex, et, er, em, eq⟩ p) (stepS s ⟨7, ec, ex, et, er, em, eq⟩ p) r := by
 have HT := Lib.hid (tx_is hx ht)
 have HTX := Lib.hid ht
 have HTO := Lib.hid ho
 clear ho
 clear ht
 obtain ⟨mb, A, c1, lb, c0, _, c2, c3, c4, c5, c6, c7, _⟩ := (h.one hi hx).at
 have hf : ∀ j, w.frozen? ⟨b, j, none⟩ = false := by obtain ⟨_, _, h1, _⟩ := h.one hi hx; exact fun j => heap_free h1
 have nb : ¬ b = w.heap.size := by omega
 have nb' : ¬ w.heap.size = b := by omega
 obtain ⟨w1, hw1⟩ : ∃ W, w.alloc (.cells #[.int .i64 7, .int .i64 ec, .int .i64 ex, .int .i64 et, .int .i64 er, .int .i64 em, .int .i64 eq] 44) = W := ⟨_, rfl⟩
 have hb1 : Below w.heap.size w w1 := by rw [← hw1]; exact (Below.refl _ _).alloc (Nat.le_refl _) _
 have hs1 : w1.heap.size = w.heap.size + 1 := by rw [← hw1]; simp
 have he1 : w1.heap[w.heap.size]? = some (.cells #[.int .i64 7, .int .i64 ec, .int .i64 ex, .int .i64 et, .int .i64 er, .int .i64 em, .int .i64 eq] 44 (0, 0)) := by rw [← hw1, heap_push, if_pos rfl]
 have hst1 := h.below hb1
 have E3 := heap_cell he1 (j := 3) (u := .int .i64 et) rfl
 have E4 := heap_cell he1 (j := 4) (u := .int .i64 er) rfl
 have HW1 := Lib.hid hw1
 have HI := Lib.hid hi
 have HX := Lib.hid hx
 have HST := Lib.hid hst1
 have HB1 := Lib.hid hb1
 have HSZ := Lib.hid hs1
 have HEX := Lib.hid he1
 have HF := Lib.hid hf
 have HNE := Lib.hid (h.ne hi hx)
 have HH := Lib.hid h
 have H4 := Lib.hid c4
 have H5 := Lib.hid c5
 obtain ⟨st, hst⟩ : ∃ v, x.state = v := ⟨_, rfl⟩
 obtain ⟨op, hop⟩ : ∃ v, x.opn = v := ⟨_, rfl⟩
 obtain ⟨ak, hak⟩ : ∃ v, x.asked = v := ⟨_, rfl⟩
 obtain ⟨xt, hxt⟩ : ∃ v, x.table = v := ⟨_, rfl⟩
 obtain ⟨xr, hxr⟩ : ∃ v, x.row = v := ⟨_, rfl⟩
 rw [hst] at c0
 rw [hop] at c4
 rw [hak] at c3
 rw [hxt] at c5
 rw [hxr] at c6
 have HO := Lib.hid hop
 have HAK := Lib.hid hak
 have HSTT := Lib.hid hst
 have HXT := Lib.hid hxt
 have HXR := Lib.hid hxr
 clear hw1 hb1 hs1 he1 hst1 hi hx hf h hst hop hak hxt hxr
 by_cases hst : st = 1
 ·subst hst
  cases op with
  | false =>
   go_enter Tryz.func133, Tryz.ntmps133
   go_wp2_with fail
   rw [HW1.out]
   replace c0 := cell_keep HB1.out c0
   replace c3 := cell_keep HB1.out c3
   replace c4 := cell_keep HB1.out c4
   replace c5 := cell_keep HB1.out c5
   replace c6 := cell_keep HB1.out c6
   replace c7 := cell_keep HB1.out c7
   go_quiet (fail)
   generalize hw2 : World.drewN w1 nq = w2
   have hh2 : w2.heap = w1.heap := by rw [← hw2]; rfl
   have hb2 : Below w.heap.size w w2 := by rw [← hw2]; exact below_drewN HB1.out nq
   have HS2 : Hid (StAt w2 B tag g s bs va vs cs) := Lib.hid (HST.out.same (fun k _ => by rw [hh2]))
   have HZ2 : Hid (w2.heap.size = w.heap.size + 1) := Lib.hid (by rw [hh2]; exact HSZ.out)
   have he2 := HEX.out
   rw [← hh2] at he2
   replace E3 := heap_cell he2 (j := 3) rfl
   replace E4 := heap_cell he2 (j := 4) rfl
   have E0 := heap_cell he2 (j := 0) rfl
   have E1 := heap_cell he2 (j := 1) rfl
   have E2 := heap_cell he2 (j := 2) rfl
   have E5 := heap_cell he2 (j := 5) rfl
   have E6 := heap_cell he2 (j := 6) rfl
   have d0 := (show w2.cell? ⟨b, 0, none⟩ = w1.cell? ⟨b, 0, none⟩ by rw [← hw2]; rfl).trans c0
   have d3 := (show w2.cell? ⟨b, 3, none⟩ = w1.cell? ⟨b, 3, none⟩ by rw [← hw2]; rfl).trans c3
   have d4 := (show w2.cell? ⟨b, 4, none⟩ = w1.cell? ⟨b, 4, none⟩ by rw [← hw2]; rfl).trans c4
   have d5 := (show w2.cell? ⟨b, 5, none⟩ = w1.cell? ⟨b, 5, none⟩ by rw [← hw2]; rfl).trans c5
   have d6 := (show w2.cell? ⟨b, 6, none⟩ = w1.cell? ⟨b, 6, none⟩ by rw [← hw2]; rfl).trans c6
   have d7 := (show w2.cell? ⟨b, 7, none⟩ = w1.cell? ⟨b, 7, none⟩ by rw [← hw2]; rfl).trans c7
   have HB2 := Lib.hid hb2
   have HB2' : Hid (Below B w w2) := Lib.hid (hb2.mono hB)
   have HE2 := Lib.hid he2
   clear hw2 hh2 hb2 he2 c0 c3 c4 c5 c6
   have HC := Lib.hid (over_st HS2.out HI.out HX.out HTO.out.client)
   go_wp2_with (go_at_call 146; refine HC.out.mono ?_; rintro r w5 ⟨rfl, hs5, hb5⟩)
   go_ret
   rw [stepS_7 HT.out HTX.out]
   exact step_ok (tag := tag) (HB2'.out.trans hb5) (by unfold stepE; rfl) hs5
  | true =>
   by_cases e1 : xt = et
   ·by_cases e2 : xr = er
    ·subst e1 e2
     go_enter Tryz.func133, Tryz.ntmps133
     go_wp2_with fail
     rw [HW1.out]
     replace c0 := cell_keep HB1.out c0
     replace c3 := cell_keep HB1.out c3
     replace c4 := cell_keep HB1.out c4
     replace c5 := cell_keep HB1.out c5
     replace c6 := cell_keep HB1.out c6
     replace c7 := cell_keep HB1.out c7
     go_quiet (fail)
     generalize hw2 : World.drewN w1 nq = w2
     have hh2 : w2.heap = w1.heap := by rw [← hw2]; rfl
     have hb2 : Below w.heap.size w w2 := by rw [← hw2]; exact below_drewN HB1.out nq
     have HS2 : Hid (StAt w2 B tag g s bs va vs cs) := Lib.hid (HST.out.same (fun k _ => by rw [hh2]))
     have HZ2 : Hid (w2.heap.size = w.heap.size + 1) := Lib.hid (by rw [hh2]; exact HSZ.out)
     have he2 := HEX.out
     rw [← hh2] at he2
     replace E3 := heap_cell he2 (j := 3) rfl
     replace E4 := heap_cell he2 (j := 4) rfl
     have E0 := heap_cell he2 (j := 0) rfl
     have E1 := heap_cell he2 (j := 1) rfl
     have E2 := heap_cell he2 (j := 2) rfl
     have E5 := heap_cell he2 (j := 5) rfl
     have E6 := heap_cell he2 (j := 6) rfl
     have d0 := (show w2.cell? ⟨b, 0, none⟩ = w1.cell? ⟨b, 0, none⟩ by rw [← hw2]; rfl).trans c0
     have d3 := (show w2.cell? ⟨b, 3, none⟩ = w1.cell? ⟨b, 3, none⟩ by rw [← hw2]; rfl).trans c3
     have d4 := (show w2.cell? ⟨b, 4, none⟩ = w1.cell? ⟨b, 4, none⟩ by rw [← hw2]; rfl).trans c4
     have d5 := (show w2.cell? ⟨b, 5, none⟩ = w1.cell? ⟨b, 5, none⟩ by rw [← hw2]; rfl).trans c5
     have d6 := (show w2.cell? ⟨b, 6, none⟩ = w1.cell? ⟨b, 6, none⟩ by rw [← hw2]; rfl).trans c6
     have d7 := (show w2.cell? ⟨b, 7, none⟩ = w1.cell? ⟨b, 7, none⟩ by rw [← hw2]; rfl).trans c7
     have HB2 := Lib.hid hb2
     have HB2' : Hid (Below B w w2) := Lib.hid (hb2.mono hB)
     have HE2 := Lib.hid he2
     clear hw2 hh2 hb2 he2 c0 c3 c4 c5 c6
     have HC := Lib.hid (over_st HS2.out HI.out HX.out HTO.out.client)
     go_wp2_with (go_at_call 146; refine HC.out.mono ?_; rintro r w5 ⟨rfl, hs5, hb5⟩)
     go_ret
     rw [stepS_7 HT.out HTX.out]
     exact step_ok (tag := tag) (HB2'.out.trans hb5) (by unfold stepE; rfl) hs5
    ·have e2b : (xr == er) = false := by simp [e2]
     subst e1
     clear e2
     go_enter Tryz.func133, Tryz.ntmps133
     go_wp2_with fail
     rw [HW1.out]
     replace c0 := cell_keep HB1.out c0
     replace c3 := cell_keep HB1.out c3
     replace c4 := cell_keep HB1.out c4
     replace c5 := cell_keep HB1.out c5
     replace c6 := cell_keep HB1.out c6
     replace c7 := cell_keep HB1.out c7
     go_quiet (fail)
     generalize hw2 : World.drewN w1 nq = w2
     have hh2 : w2.heap = w1.heap := by rw [← hw2]; rfl
     have hb2 : Below w.heap.size w w2 := by rw [← hw2]; exact below_drewN HB1.out nq
     have HS2 : Hid (StAt w2 B tag g s bs va vs cs) := Lib.hid (HST.out.same (fun k _ => by rw [hh2]))
     have HZ2 : Hid (w2.heap.size = w.heap.size + 1) := Lib.hid (by rw [hh2]; exact HSZ.out)
     have he2 := HEX.out
     rw [← hh2] at he2
     replace E3 := heap_cell he2 (j := 3) rfl
     replace E4 := heap_cell he2 (j := 4) rfl
     have E0 := heap_cell he2 (j := 0) rfl
     have E1 := heap_cell he2 (j := 1) rfl
     have E2 := heap_cell he2 (j := 2) rfl
     have E5 := heap_cell he2 (j := 5) rfl
     have E6 := heap_cell he2 (j := 6) rfl
     have d0 := (show w2.cell? ⟨b, 0, none⟩ = w1.cell? ⟨b, 0, none⟩ by rw [← hw2]; rfl).trans c0
     have d3 := (show w2.cell? ⟨b, 3, none⟩ = w1.cell? ⟨b, 3, none⟩ by rw [← hw2]; rfl).trans c3
     have d4 := (show w2.cell? ⟨b, 4, none⟩ = w1.cell? ⟨b, 4, none⟩ by rw [← hw2]; rfl).trans c4
     have d5 := (show w2.cell? ⟨b, 5, none⟩ = w1.cell? ⟨b, 5, none⟩ by rw [← hw2]; rfl).trans c5
     have d6 := (show w2.cell? ⟨b, 6, none⟩ = w1.cell? ⟨b, 6, none⟩ by rw [← hw2]; rfl).trans c6
     have d7 := (show w2.cell? ⟨b, 7, none⟩ = w1.cell? ⟨b, 7, none⟩ by rw [← hw2]; rfl).trans c7
     have HB2 := Lib.hid hb2
     have HB2' : Hid (Below B w w2) := Lib.hid (hb2.mono hB)
     have HE2 := Lib.hid he2
     clear hw2 hh2 hb2 he2 c0 c3 c4 c5 c6
     have HC := Lib.hid (over_st HS2.out HI.out HX.out HTO.out.client)
     go_wp2_with (go_at_call 146; refine HC.out.mono ?_; rintro r w5 ⟨rfl, hs5, hb5⟩)
     go_ret
     rw [stepS_7 HT.out HTX.out]
     exact step_ok (tag := tag) (HB2'.out.trans hb5) (by unfold stepE; rfl) hs5
   ·have e1b : (xt == et) = false := by simp [e1]
    clear e1
    go_enter Tryz.func133, Tryz.ntmps133
    go_wp2_with fail
    rw [HW1.out]
    replace c0 := cell_keep HB1.out c0
    replace c3 := cell_keep HB1.out c3
    replace c4 := cell_keep HB1.out c4
    replace c5 := cell_keep HB1.out c5
    replace c6 := cell_keep HB1.out c6
    replace c7 := cell_keep HB1.out c7
    go_quiet (fail)
    generalize hw2 : World.drewN w1 nq = w2
    have hh2 : w2.heap = w1.heap := by rw [← hw2]; rfl
    have hb2 : Below w.heap.size w w2 := by rw [← hw2]; exact below_drewN HB1.out nq
    have HS2 : Hid (StAt w2 B tag g s bs va vs cs) := Lib.hid (HST.out.same (fun k _ => by rw [hh2]))
    have HZ2 : Hid (w2.heap.size = w.heap.size + 1) := Lib.hid (by rw [hh2]; exact HSZ.out)
    have he2 := HEX.out
    rw [← hh2] at he2
    replace E3 := heap_cell he2 (j := 3) rfl
    replace E4 := heap_cell he2 (j := 4) rfl
    have E0 := heap_cell he2 (j := 0) rfl
    have E1 := heap_cell he2 (j := 1) rfl
    have E2 := heap_cell he2 (j := 2) rfl
    have E5 := heap_cell he2 (j := 5) rfl
    have E6 := heap_cell he2 (j := 6) rfl
    have d0 := (show w2.cell? ⟨b, 0, none⟩ = w1.cell? ⟨b, 0, none⟩ by rw [← hw2]; rfl).trans c0
    have d3 := (show w2.cell? ⟨b, 3, none⟩ = w1.cell? ⟨b, 3, none⟩ by rw [← hw2]; rfl).trans c3
    have d4 := (show w2.cell? ⟨b, 4, none⟩ = w1.cell? ⟨b, 4, none⟩ by rw [← hw2]; rfl).trans c4
    have d5 := (show w2.cell? ⟨b, 5, none⟩ = w1.cell? ⟨b, 5, none⟩ by rw [← hw2]; rfl).trans c5
    have d6 := (show w2.cell? ⟨b, 6, none⟩ = w1.cell? ⟨b, 6, none⟩ by rw [← hw2]; rfl).trans c6
    have d7 := (show w2.cell? ⟨b, 7, none⟩ = w1.cell? ⟨b, 7, none⟩ by rw [← hw2]; rfl).trans c7
    have HB2 := Lib.hid hb2
    have HB2' : Hid (Below B w w2) := Lib.hid (hb2.mono hB)
    have HE2 := Lib.hid he2
    clear hw2 hh2 hb2 he2 c0 c3 c4 c5 c6
    have HC := Lib.hid (over_st HS2.out HI.out HX.out HTO.out.client)
    go_wp2_with (go_at_call 146; refine HC.out.mono ?_; rintro r w5 ⟨rfl, hs5, hb5⟩)
    go_ret
    rw [stepS_7 HT.out HTX.out]
    exact step_ok (tag := tag) (HB2'.out.trans hb5) (by unfold stepE; rfl) hs5
 ·have hstb : (st == 1) = false := by simp [hst]
  clear hst
  go_enter Tryz.func133, Tryz.ntmps133
  go_wp2_with fail
  rw [HW1.out]
  replace c0 := cell_keep HB1.out c0
  replace c3 := cell_keep HB1.out c3
  replace c4 := cell_keep HB1.out c4
  replace c5 := cell_keep HB1.out c5
  replace c6 := cell_keep HB1.out c6
  replace c7 := cell_keep HB1.out c7
  go_quiet (fail)
  generalize hw2 : World.drewN w1 nq = w2
  have hh2 : w2.heap = w1.heap := by rw [← hw2]; rfl
  have hb2 : Below w.heap.size w w2 := by rw [← hw2]; exact below_drewN HB1.out nq
  have HS2 : Hid (StAt w2 B tag g s bs va vs cs) := Lib.hid (HST.out.same (fun k _ => by rw [hh2]))
  have HZ2 : Hid (w2.heap.size = w.heap.size + 1) := Lib.hid (by rw [hh2]; exact HSZ.out)
  have he2 := HEX.out
  rw [← hh2] at he2
  replace E3 := heap_cell he2 (j := 3) rfl
  replace E4 := heap_cell he2 (j := 4) rfl
  have E0 := heap_cell he2 (j := 0) rfl
  have E1 := heap_cell he2 (j := 1) rfl
  have E2 := heap_cell he2 (j := 2) rfl
  have E5 := heap_cell he2 (j := 5) rfl
  have E6 := heap_cell he2 (j := 6) rfl
  have d0 := (show w2.cell? ⟨b, 0, none⟩ = w1.cell? ⟨b, 0, none⟩ by rw [← hw2]; rfl).trans c0
  have d3 := (show w2.cell? ⟨b, 3, none⟩ = w1.cell? ⟨b, 3, none⟩ by rw [← hw2]; rfl).trans c3
  have d4 := (show w2.cell? ⟨b, 4, none⟩ = w1.cell? ⟨b, 4, none⟩ by rw [← hw2]; rfl).trans c4
  have d5 := (show w2.cell? ⟨b, 5, none⟩ = w1.cell? ⟨b, 5, none⟩ by rw [← hw2]; rfl).trans c5
  have d6 := (show w2.cell? ⟨b, 6, none⟩ = w1.cell? ⟨b, 6, none⟩ by rw [← hw2]; rfl).trans c6
  have d7 := (show w2.cell? ⟨b, 7, none⟩ = w1.cell? ⟨b, 7, none⟩ by rw [← hw2]; rfl).trans c7
  have HB2 := Lib.hid hb2
  have HB2' : Hid (Below B w w2) := Lib.hid (hb2.mono hB)
  have HE2 := Lib.hid he2
  clear hw2 hh2 hb2 he2 c0 c3 c4 c5 c6
  have HC := Lib.hid (over_st HS2.out HI.out HX.out HTO.out.client)
  go_wp2_with (go_at_call 146; refine HC.out.mono ?_; rintro r w5 ⟨rfl, hs5, hb5⟩)
  go_ret
  rw [stepS_7 HT.out HTX.out]
  exact step_ok (tag := tag) (HB2'.out.trans hb5) (by unfold stepE; rfl) hs5
end Go.Proofs.YtjpjlfjaapfnkaaGreatDoor.C20

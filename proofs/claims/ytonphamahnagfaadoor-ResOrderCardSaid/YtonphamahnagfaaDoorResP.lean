/-
  res.Parse: over any text. The condition: errors.errorType reads as the program's text lays it.
-/
import Derived.Test.YtonphamahnagfaaDoorResN
namespace Go.Proofs.YtonphamahnagfaaDoor
open Go.ChangeShapes Go.WideShapes Go.ChangeAt Go.RowKit
set_option linter.unusedVariables false

theorem as_hit (e : Addr) (F : Nat) (w : World) (hE : ErrT w) (hF : w.cell? ⟨F, 0, none⟩ = some (.pointer none)) (hfz : w.frozen? ⟨F, 0, none⟩ = false) :
    Calls Tryd.prog 24 #[.iface 51 (.pointer (some e)), .iface 53 (.pointer (some ⟨F, 0, none⟩))] w fun ev w' => (ev = .returned (.bool true) ∧ w'.cell? ⟨F, 0, none⟩ = some (.pointer (some e))) ∧ w.grownBy w' (some F) := by
  refine (as_fault e ⟨F, 0, none⟩ (.pointer none) w hE hF hfz).mono ?_
  rintro ev w' ⟨rfl, hw'⟩
  have e0 : ∀ (W : World) (o : Obj) (v : Value), W.cell? ⟨F, 0, none⟩ = some v → (W.alloc o).cell? ⟨F, 0, none⟩ = some v := fun W o v h => (World.cell?_alloc_lt _ _ ⟨F, 0, none⟩ (lt_of_cell h)).trans h
  refine ⟨⟨rfl, ?_⟩, ?_⟩
  · rw [← hw']
    refine World.cell?_setCell_same (w := _) (u := .pointer none) (h := ?_) ..
    exact e0 _ _ _ (e0 _ _ _ (e0 _ _ _ (e0 _ _ _ hF)))
  · rw [← hw']
    exact gb_set (gb_alloc (gb_alloc (gb_alloc (gb_alloc (World.grownBy.refl _ _) _) _) _) _) _ _

theorem FaultAt.set {w : World} {B g i b o : Nat} {u : Value} (h : FaultAt w B g i) (hne : b ≠ g) : FaultAt (w.setCell ⟨b, o, none⟩ u) B g i :=
  ⟨h.1, by simpa using h.2.1, (World.cell?_setCell_other (h := by simp) ..).trans h.2.2.1, (World.cell?_setCell_other (h := by simp) ..).trans h.2.2.2⟩
theorem FaultAt.mono {w : World} {B B' g i : Nat} (h : FaultAt w B g i) (hB : B' ≤ B) : FaultAt w B' g i := ⟨by have := h.1; omega, h.2.1, h.2.2.1, h.2.2.2⟩
theorem FaultAt.drew {w : World} {B g i : Nat} (h : FaultAt w B g i) : FaultAt w.drew B g i := h
theorem FaultAt.kept {w w1 : World} {B g i F : Nat} (h : FaultAt w B g i) (hg : w.grownBy w1 (some F)) (hne : g ≠ F) : FaultAt w1 B g i :=
  ⟨h.1, Nat.lt_of_lt_of_le h.2.1 hg.size, hg.cell h.2.2.1 (fun e => hne (by simpa using e)), hg.cell h.2.2.2 (fun e => hne (by simpa using e))⟩
theorem set2 {W : World} {b : Nat} {x0 x1 : Value} (h0 : W.cell? ⟨b, 0, none⟩ = some x0) (h1 : W.cell? ⟨b, 1, none⟩ = some x1) (y0 y1 : Value) :
    ((W.setCell ⟨b, 0, none⟩ y0).setCell ⟨b, 1, none⟩ y1).cell? ⟨b, 0, none⟩ = some y0 ∧ ((W.setCell ⟨b, 0, none⟩ y0).setCell ⟨b, 1, none⟩ y1).cell? ⟨b, 1, none⟩ = some y1 := by
  simp [go_sem, h0, h1]

/-- what Parse answers -/
def ResIs (w w' : World) (e : Ending) : (Nat × Nat) ⊕ Nat → Prop
  | .inl (t, r) => e = .returned (.tuple #[.agg #[.int .i64 t, .int .i64 r], .nilIface])
  | .inr i => ∃ g, e = .returned (.tuple #[.agg #[.int .i64 0, .int .i64 0], .iface 51 (.pointer (some ⟨g, 0, none⟩))]) ∧ FaultAt w' w.heap.size g i

set_option maxRecDepth 100000 in
set_option maxHeartbeats 1000000 in
theorem parse_any (s : ByteArray) (w : World) (hE : ErrT w) (hs : s.size ≤ 140737488355328) :
    Calls Tryd.prog 9 #[.string s] w fun e w' => ResIs w w' e (parseL s.data.toList) ∧ Below w.heap.size w w' := by
  have hsz : s.data.toList.length = s.size := by simp
  have HSZ := Lib.hid hsz
  have HE := Lib.hid hE
  have hbA : Below w.heap.size w (w.alloc (.cells #[.int .i64 0, .int .i64 0] 24)) := (Below.refl _ _).alloc (Nat.le_refl _) _
  have HN := Lib.hid (fun (pl : Nat) (W : World) (hp : pl ≤ s.size) => number_any s pl W hs hp)
  clear hsz hE
  go_enter Tryd.func9, Tryd.ntmps9
  go_wp2_with fail
  refine (HN.out 0 _ (by omega)).mono ?_
  rintro e w5 ⟨hN, hb5⟩
  have hb5' : Below w.heap.size w w5 := hbA.trans (hb5.mono hbA.size)
  have r0 : w5.cell? ⟨w.heap.size, 0, none⟩ = some (.int .i64 0) := (hb5.cell (p := ⟨w.heap.size, 0, none⟩) (by simp)).trans (by simp)
  have r1 : w5.cell? ⟨w.heap.size, 1, none⟩ = some (.int .i64 0) := (hb5.cell (p := ⟨w.heap.size, 1, none⟩) (by simp)).trans (by simp)
  have hs5 : w.heap.size + 1 ≤ w5.heap.size := by have := hb5.size; simpa using this
  have HS5 := Lib.hid hs5
  have HR0 := Lib.hid r0
  have HR1 := Lib.hid r1
  have HZ0 := Lib.hid (show w5.frozen? ⟨w.heap.size, 0, none⟩ = false from (hb5.frozen (p := ⟨w.heap.size, 0, none⟩) (by simp)).trans (by simp))
  have HZ1 := Lib.hid (show w5.frozen? ⟨w.heap.size, 1, none⟩ = false from (hb5.frozen (p := ⟨w.heap.size, 1, none⟩) (by simp)).trans (by simp))
  have HB5 := Lib.hid hb5'
  have hb6 : Below w5.heap.size w5 (w5.alloc (.cells #[.pointer none] 51)) := (Below.refl _ _).alloc (Nat.le_refl _) _
  have HE6 := Lib.hid ((HE.out.below hb5').below hb6)
  have HB6 := Lib.hid hb6
  clear hs5 r0 r1 hb5' hb6
  cases hq : numberL s.data.toList 0 with
  | inr i =>
    rw [hq] at hN
    obtain ⟨g, rfl, hF⟩ := hN
    have hPL : parseL s.data.toList = .inr i := by unfold parseL; rw [hq]
    have HPL := Lib.hid hPL
    have HGF := Lib.hid (Nat.ne_of_lt hF.2.1)
    have HGR := Lib.hid (show w.heap.size < g by have := hF.1; simp at this; omega)
    have HF := Lib.hid ((hF.mono (B' := w.heap.size) (by simp)).below HB6.out)
    clear hq hPL hF hb5
    have HA := Lib.hid (as_hit ⟨g, 0, none⟩ w5.heap.size (w5.alloc (.cells #[.pointer none] 51)) HE6.out (by simp) (by simp))
    -- a fault g of number's at the world %WX (Below w5 %WX), the cell of f at w5.heap.size
    go_wp2_with fail
    refine HA.out.mono ?_
    rintro e w7 ⟨⟨rfl, hc7⟩, hg7⟩
    have hb7 : Below w5.heap.size w5 w7 := Below.grown HB6.out hg7 (HB6.out).size (fun k e => by cases e; exact Nat.le_refl _)
    have HF7 := Lib.hid (HF.out.kept hg7 (HGF.out))
    have hne : ¬ w5.heap.size = w.heap.size := by have := HS5.out; omega
    have hne' : ¬ w.heap.size = w5.heap.size := by have := HS5.out; omega
    have r0' := ((hb7).cell (p := ⟨w.heap.size, 0, none⟩) (by have := HS5.out; show w.heap.size < _; omega)).trans HR0.out
    have r1' := ((hb7).cell (p := ⟨w.heap.size, 1, none⟩) (by have := HS5.out; show w.heap.size < _; omega)).trans HR1.out
    have fz' := ((hb7).frozen (p := ⟨w.heap.size, 0, none⟩) (by have := HS5.out; show w.heap.size < _; omega)).trans HZ0.out
    have fz1' := ((hb7).frozen (p := ⟨w.heap.size, 1, none⟩) (by have := HS5.out; show w.heap.size < _; omega)).trans HZ1.out
    obtain ⟨q0, q1⟩ := set2 r0' r1' (.int .i64 0) (.int .i64 0)
    have HB0 := Lib.hid (show Below w.heap.size w ((w7).setCell ⟨w.heap.size, 0, none⟩ (.int .i64 0)) from Below.setCell (HB5.out.trans ((hb7).mono (by have := HS5.out; omega))) (Nat.le_refl _) _)
    have HBF := Lib.hid (show Below w.heap.size w (((w7).setCell ⟨w.heap.size, 0, none⟩ (.int .i64 0)).setCell ⟨w.heap.size, 1, none⟩ (.int .i64 0)) from Below.setCell HB0.out (Nat.le_refl _) _)
    clear HB0
    go_wp2
    go_region
    go_wp2
    refine bodyPost_ret (by simp [results, Tryd.results9, go_sem, q0, q1] <;> rfl) rfl ?_
    rw [HPL.out]
    exact ⟨⟨g, rfl, (FaultAt.set (FaultAt.set HF7.out (by have := HGR.out; omega)) (by have := HGR.out; omega))⟩, HBF.out.drew⟩
  | inl p =>
    obtain ⟨n, i⟩ := p
    rw [hq] at hN
    obtain rfl := hN
    clear hb5
    have hPI : parseL s.data.toList = if i = s.size then .inl (n, 0) else if s.data.toList[i]? ≠ some 46 then .inr i else
      match numberL s.data.toList (i + 1) with
      | .inr j => .inr j
      | .inl (r, j) => if j < s.size then .inr j else .inl (n, r) := by
      unfold parseL; rw [hq, HSZ.out]; rfl
    have hi : i ≤ s.size := by have := (numberL_le hq (by omega)).2; rwa [HSZ.out] at this
    by_cases hin : i = s.size
    · rw [if_pos hin] at hPI
      have HPL := Lib.hid hPI
      have hin' : ((i : Int) == s.size) = true := by simp [hin]
      clear hPI hq
      have r0' := ((HB6.out).cell (p := ⟨w.heap.size, 0, none⟩) (by have := HS5.out; show w.heap.size < _; omega)).trans HR0.out
      have r1' := ((HB6.out).cell (p := ⟨w.heap.size, 1, none⟩) (by have := HS5.out; show w.heap.size < _; omega)).trans HR1.out
      have fz' := ((HB6.out).frozen (p := ⟨w.heap.size, 0, none⟩) (by have := HS5.out; show w.heap.size < _; omega)).trans HZ0.out
      have fz1' := ((HB6.out).frozen (p := ⟨w.heap.size, 1, none⟩) (by have := HS5.out; show w.heap.size < _; omega)).trans HZ1.out
      obtain ⟨q0, q1⟩ := set2 r0' r1' (.int .i64 n) (.int .i64 0)
      have HB0 := Lib.hid (show Below w.heap.size w (((w5.alloc (.cells #[.pointer none] 51))).setCell ⟨w.heap.size, 0, none⟩ (.int .i64 n)) from Below.setCell (HB5.out.trans ((HB6.out).mono (by have := HS5.out; omega))) (Nat.le_refl _) _)
      have HBF := Lib.hid (show Below w.heap.size w ((((w5.alloc (.cells #[.pointer none] 51))).setCell ⟨w.heap.size, 0, none⟩ (.int .i64 n)).setCell ⟨w.heap.size, 1, none⟩ (.int .i64 0)) from Below.setCell HB0.out (Nat.le_refl _) _)
      clear HB0
      go_wp2_with (go_at_call 24; refine (as_nil _ _).mono ?_; rintro e w' ⟨rfl, rfl⟩)
      refine bodyPost_ret (by simp [results, Tryd.results9, go_sem, q0, q1] <;> rfl) rfl ?_
      rw [HPL.out]
      exact ⟨rfl, HBF.out⟩
    · rw [if_neg hin] at hPI
      have hil : i < s.size := by omega
      have hil' : (i : Int) < s.size := by omega
      have hin' : ((i : Int) == s.size) = false := by simp; omega
      obtain ⟨c, hc⟩ : ∃ c, s[i] = c := ⟨_, rfl⟩
      have hget : s.data.toList[i]? = some c := by
        rw [List.getElem?_eq_getElem (by rw [HSZ.out]; exact hil), ← hc]; simp; rfl
      rw [hget] at hPI
      clear hget hq
      by_cases hc46 : c = 46
      · subst hc46
        rw [if_neg (by simp)] at hPI
        have h8 := HN.out (i + 1) (w5.alloc (.cells #[.pointer none] 51)) (by omega)
        have H8 := Lib.hid h8
        rw [show ((i + 1 : Nat) : Int) = (i : Int) + 1 by omega] at H8
        clear h8
        go_wp2_with (go_at_call 24; refine (as_nil _ _).mono ?_; rintro e w' ⟨rfl, rfl⟩)
        refine H8.out.mono ?_
        rintro e w8 ⟨hN8, hb8⟩
        have hb8' : Below w5.heap.size w5 w8 := HB6.out.trans (hb8.mono HB6.out.size)
        have HB8 := Lib.hid hb8'
        have HE8 := Lib.hid (HE6.out.below hb8)
        have hF8 : w8.cell? ⟨w5.heap.size, 0, none⟩ = some (.pointer none) := (hb8.cell (p := ⟨w5.heap.size, 0, none⟩) (by simp)).trans (by simp)
        have hZ8 : w8.frozen? ⟨w5.heap.size, 0, none⟩ = false := (hb8.frozen (p := ⟨w5.heap.size, 0, none⟩) (by simp)).trans (by simp)
        clear hb8' H8
        cases hq2 : numberL s.data.toList (i + 1) with
        | inr j =>
          rw [hq2] at hN8 hPI
          obtain ⟨g, rfl, hF⟩ := hN8
          have HPL := Lib.hid hPI
          have hlo := hF.1
          simp at hlo
          have HGF := Lib.hid (show g ≠ w5.heap.size by omega)
          have HGR := Lib.hid (show w.heap.size < g by have := HS5.out; omega)
          have HF := Lib.hid (hF.mono (B' := w.heap.size) (by have := HS5.out; simp; omega))
          have HA := Lib.hid (as_hit ⟨g, 0, none⟩ w5.heap.size w8 HE8.out hF8 hZ8)
          clear hc hq2 hPI hF hb8 hlo hF8 hZ8 hin hil hil' hin' hi
          -- a fault g of number's at the world %WX (Below w5 %WX), the cell of f at w5.heap.size
          go_wp2_with fail
          refine HA.out.mono ?_
          rintro e w7 ⟨⟨rfl, hc7⟩, hg7⟩
          have hb7 : Below w5.heap.size w5 w7 := Below.grown HB8.out hg7 (HB8.out).size (fun k e => by cases e; exact Nat.le_refl _)
          have HF7 := Lib.hid (HF.out.kept hg7 (HGF.out))
          have hne : ¬ w5.heap.size = w.heap.size := by have := HS5.out; omega
          have hne' : ¬ w.heap.size = w5.heap.size := by have := HS5.out; omega
          have r0' := ((hb7).cell (p := ⟨w.heap.size, 0, none⟩) (by have := HS5.out; show w.heap.size < _; omega)).trans HR0.out
          have r1' := ((hb7).cell (p := ⟨w.heap.size, 1, none⟩) (by have := HS5.out; show w.heap.size < _; omega)).trans HR1.out
          have fz' := ((hb7).frozen (p := ⟨w.heap.size, 0, none⟩) (by have := HS5.out; show w.heap.size < _; omega)).trans HZ0.out
          have fz1' := ((hb7).frozen (p := ⟨w.heap.size, 1, none⟩) (by have := HS5.out; show w.heap.size < _; omega)).trans HZ1.out
          obtain ⟨q0, q1⟩ := set2 r0' r1' (.int .i64 0) (.int .i64 0)
          have HB0 := Lib.hid (show Below w.heap.size w ((w7).setCell ⟨w.heap.size, 0, none⟩ (.int .i64 0)) from Below.setCell (HB5.out.trans ((hb7).mono (by have := HS5.out; omega))) (Nat.le_refl _) _)
          have HBF := Lib.hid (show Below w.heap.size w (((w7).setCell ⟨w.heap.size, 0, none⟩ (.int .i64 0)).setCell ⟨w.heap.size, 1, none⟩ (.int .i64 0)) from Below.setCell HB0.out (Nat.le_refl _) _)
          clear HB0
          go_wp2
          go_region
          go_wp2
          refine bodyPost_ret (by simp [results, Tryd.results9, go_sem, q0, q1] <;> rfl) rfl ?_
          rw [HPL.out]
          exact ⟨⟨g, rfl, (FaultAt.set (FaultAt.set HF7.out (by have := HGR.out; omega)) (by have := HGR.out; omega))⟩, HBF.out.drew⟩
        | inl p2 =>
          obtain ⟨r, j⟩ := p2
          rw [hq2] at hN8 hPI
          obtain rfl := hN8
          simp only at hPI
          clear hb8 hF8 hZ8
          by_cases hjs : j < s.size
          · have hjs' : (j : Int) < s.size := by omega
            rw [if_pos hjs] at hPI
            have HPL := Lib.hid hPI
            clear hc hPI hq2 hin hil hil' hin' hi
            go_wp2_with (go_at_call 24; refine (as_nil _ _).mono ?_; rintro e w' ⟨rfl, rfl⟩)
            -- errForm at the place j
            go_wp2_with fail
            refine (errForm_any j _).mono ?_
            rintro e w9 ⟨⟨g, rfl, hF9⟩, hb9⟩
            have hb9' := (HB8.out).trans (hb9.mono (HB8.out).size)
            have HF9 := Lib.hid hF9
            clear hF9
            have r0' := ((hb9').cell (p := ⟨w.heap.size, 0, none⟩) (by have := HS5.out; show w.heap.size < _; omega)).trans HR0.out
            have r1' := ((hb9').cell (p := ⟨w.heap.size, 1, none⟩) (by have := HS5.out; show w.heap.size < _; omega)).trans HR1.out
            have fz' := ((hb9').frozen (p := ⟨w.heap.size, 0, none⟩) (by have := HS5.out; show w.heap.size < _; omega)).trans HZ0.out
            have fz1' := ((hb9').frozen (p := ⟨w.heap.size, 1, none⟩) (by have := HS5.out; show w.heap.size < _; omega)).trans HZ1.out
            obtain ⟨q0, q1⟩ := set2 r0' r1' (.int .i64 0) (.int .i64 0)
            have HB0 := Lib.hid (show Below w.heap.size w ((w9).setCell ⟨w.heap.size, 0, none⟩ (.int .i64 0)) from Below.setCell (HB5.out.trans ((hb9').mono (by have := HS5.out; omega))) (Nat.le_refl _) _)
            have HBF := Lib.hid (show Below w.heap.size w (((w9).setCell ⟨w.heap.size, 0, none⟩ (.int .i64 0)).setCell ⟨w.heap.size, 1, none⟩ (.int .i64 0)) from Below.setCell HB0.out (Nat.le_refl _) _)
            clear HB0
            go_wp2
            refine bodyPost_ret (by simp [results, Tryd.results9, go_sem, q0, q1] <;> rfl) rfl ?_
            rw [HPL.out]
            exact ⟨⟨g, rfl, (FaultAt.set (FaultAt.set (FaultAt.mono HF9.out (by have := (HB8.out).size; have := HS5.out; omega)) (by have := HF9.out.1; have := (HB8.out).size; have := HS5.out; omega)) (by have := HF9.out.1; have := (HB8.out).size; have := HS5.out; omega))⟩, HBF.out⟩
          · have hjs' : ¬ (j : Int) < s.size := by omega
            rw [if_neg hjs] at hPI
            have HPL := Lib.hid hPI
            clear hc hPI hq2 hin hil hil' hin' hi
            have r0' := ((HB8.out).cell (p := ⟨w.heap.size, 0, none⟩) (by have := HS5.out; show w.heap.size < _; omega)).trans HR0.out
            have r1' := ((HB8.out).cell (p := ⟨w.heap.size, 1, none⟩) (by have := HS5.out; show w.heap.size < _; omega)).trans HR1.out
            have fz' := ((HB8.out).frozen (p := ⟨w.heap.size, 0, none⟩) (by have := HS5.out; show w.heap.size < _; omega)).trans HZ0.out
            have fz1' := ((HB8.out).frozen (p := ⟨w.heap.size, 1, none⟩) (by have := HS5.out; show w.heap.size < _; omega)).trans HZ1.out
            obtain ⟨q0, q1⟩ := set2 r0' r1' (.int .i64 n) (.int .i64 r)
            have HB0 := Lib.hid (show Below w.heap.size w ((w8).setCell ⟨w.heap.size, 0, none⟩ (.int .i64 n)) from Below.setCell (HB5.out.trans ((HB8.out).mono (by have := HS5.out; omega))) (Nat.le_refl _) _)
            have HBF := Lib.hid (show Below w.heap.size w (((w8).setCell ⟨w.heap.size, 0, none⟩ (.int .i64 n)).setCell ⟨w.heap.size, 1, none⟩ (.int .i64 r)) from Below.setCell HB0.out (Nat.le_refl _) _)
            clear HB0
            go_wp2_with (go_at_call 24; refine (as_nil _ _).mono ?_; rintro e w' ⟨rfl, rfl⟩)
            refine bodyPost_ret (by simp [results, Tryd.results9, go_sem, q0, q1] <;> rfl) rfl ?_
            rw [HPL.out]
            exact ⟨rfl, HBF.out⟩
      · rw [if_pos (by simp [hc46])] at hPI
        have HPL := Lib.hid hPI
        have hcc : ((c.toNat : Int) != 46) = true := by
          have : c.toNat ≠ 46 := fun h => hc46 (by have := UInt8.ofNat_toNat (x := c); rw [h] at this; exact this.symm)
          simp; omega
        clear hPI
        go_wp2_with (go_at_call 24; refine (as_nil _ _).mono ?_; rintro e w' ⟨rfl, rfl⟩)
        -- errForm at the place i
        go_wp2_with fail
        refine (errForm_any i _).mono ?_
        rintro e w9 ⟨⟨g, rfl, hF9⟩, hb9⟩
        have hb9' := (HB6.out).trans (hb9.mono (HB6.out).size)
        have HF9 := Lib.hid hF9
        clear hF9
        have r0' := ((hb9').cell (p := ⟨w.heap.size, 0, none⟩) (by have := HS5.out; show w.heap.size < _; omega)).trans HR0.out
        have r1' := ((hb9').cell (p := ⟨w.heap.size, 1, none⟩) (by have := HS5.out; show w.heap.size < _; omega)).trans HR1.out
        have fz' := ((hb9').frozen (p := ⟨w.heap.size, 0, none⟩) (by have := HS5.out; show w.heap.size < _; omega)).trans HZ0.out
        have fz1' := ((hb9').frozen (p := ⟨w.heap.size, 1, none⟩) (by have := HS5.out; show w.heap.size < _; omega)).trans HZ1.out
        obtain ⟨q0, q1⟩ := set2 r0' r1' (.int .i64 0) (.int .i64 0)
        have HB0 := Lib.hid (show Below w.heap.size w ((w9).setCell ⟨w.heap.size, 0, none⟩ (.int .i64 0)) from Below.setCell (HB5.out.trans ((hb9').mono (by have := HS5.out; omega))) (Nat.le_refl _) _)
        have HBF := Lib.hid (show Below w.heap.size w (((w9).setCell ⟨w.heap.size, 0, none⟩ (.int .i64 0)).setCell ⟨w.heap.size, 1, none⟩ (.int .i64 0)) from Below.setCell HB0.out (Nat.le_refl _) _)
        clear HB0
        go_wp2
        refine bodyPost_ret (by simp [results, Tryd.results9, go_sem, q0, q1] <;> rfl) rfl ?_
        rw [HPL.out]
        exact ⟨⟨g, rfl, (FaultAt.set (FaultAt.set (FaultAt.mono HF9.out (by have := (HB6.out).size; have := HS5.out; omega)) (by have := HF9.out.1; have := (HB6.out).size; have := HS5.out; omega)) (by have := HF9.out.1; have := (HB6.out).size; have := HS5.out; omega))⟩, HBF.out⟩
end Go.Proofs.YtonphamahnagfaaDoor

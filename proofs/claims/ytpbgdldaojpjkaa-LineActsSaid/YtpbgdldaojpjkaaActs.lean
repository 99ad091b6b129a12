/-
  The walk of catchboltlaw07.LineActs. No conditions.
-/
import Derived.Test.YtpbgdldaojpjkaaActR
namespace Go.Proofs.Ytpbgdldaojpjkaa
open Go.ChangeShapes Go.WideShapes Go.ChangeAt Go.RowKit
set_option linter.unusedVariables false

set_option maxHeartbeats 1000000 in
theorem acts_long (lim tx : Int) (A : Option Addr) (n c : Nat) (w : World) (h : ¬ n ≤ 200) :
    Calls Try.prog 3 #[.int .i64 lim, .slice A n c, .int .i64 tx] w fun e w' => e = .returned (.bool true) ∧ Below w.heap.size w w' := by
  have h' : (200 : Int) < n := by omega
  clear h
  go_enter Try.func3, Try.ntmps3
  go_wp2_with fail
  refine (alive_true _).mono ?_
  rintro e w1 ⟨rfl, hb1⟩
  go_wp2
  go_ret
  exact ⟨rfl, hb1⟩

set_option maxRecDepth 100000 in
set_option maxHeartbeats 2000000 in
theorem acts_range (lim tx : Int) (A : Option Addr) (n c : Nat) (w : World) (h : n ≤ 200) (hl : lim < 1 ∨ 64 < lim) :
    Calls Try.prog 3 #[.int .i64 lim, .slice A n c, .int .i64 tx] w fun e w' => e = .returned (.bool true) ∧ Below w.heap.size w w' := by
  have h' : ¬ (200 : Int) < n := by omega
  clear h
  by_cases h1 : lim < 1
  · have HH := Lib.hid hl
    clear hl
    go_enter Try.func3, Try.ntmps3
    go_wp2_with fail
    refine (alive_true _).mono ?_
    rintro e w1 ⟨rfl, hb1⟩
    go_wp2_with fail
    refine (new_no lim w1 HH.out).mono ?_
    rintro e w2 ⟨rfl, rfl⟩
    go_wp2_with fail
    refine (code_any 2 w1 (by omega)).mono ?_
    rintro e w2 ⟨rfl, rfl⟩
    go_wp2
    go_ret
    exact ⟨rfl, hb1⟩
  · have h2 : 64 < lim := by omega
    have HH := Lib.hid hl
    clear hl
    go_enter Try.func3, Try.ntmps3
    go_wp2_with fail
    refine (alive_true _).mono ?_
    rintro e w1 ⟨rfl, hb1⟩
    go_wp2_with fail
    refine (new_no lim w1 HH.out).mono ?_
    rintro e w2 ⟨rfl, rfl⟩
    go_wp2_with fail
    refine (code_any 2 w1 (by omega)).mono ?_
    rintro e w2 ⟨rfl, rfl⟩
    go_wp2
    go_ret
    exact ⟨rfl, hb1⟩

theorem rleave_x (A : Option Addr) (n c : Nat) (l : Lot) (t : Int) (w : World) (h : ListIs w A n c l.all) (hn : n ≤ 10000) (hr : l.right) :
    Calls Try.prog 12 #[.slice A n c, .int .i64 t] w fun r w' => (∃ v, r = .returned (.tuple #[v, (leaveW l t).val, .int .i64 (leaveE l t)]) ∧ Then w w' A (leaveL l t).all v) ∧ Below w.heap.size w w' := by
  have hW : leaveW l t = if findW l.all t < l.all.length then l.all.getD (findW l.all t) Wt.none else Wt.none := by
    unfold leaveW Lot.has; by_cases h : findW l.all t < l.all.length <;> simp [h]
  have hE : leaveE l t = if findW l.all t < l.all.length then 0 else 10 := by
    unfold leaveE Lot.has; by_cases h : findW l.all t < l.all.length <;> simp [h]
  rw [hW, hE, ← (leave_doc l t hr).1]
  exact rleave_v A n c l.all t w h hn

set_option maxRecDepth 100000 in
set_option maxHeartbeats 16000000 in
theorem acts_true (lim tx : Int) (A1 : Option Addr) (N c1 : Nat) (av : List Av) (w : World) (h : N ≤ 200) (h1 : 1 ≤ lim) (h2 : lim ≤ 64) (hr : RdA w A1 av) (hl : av.length = N) :
    Calls Try.prog 3 #[.int .i64 lim, .slice A1 N c1, .int .i64 tx] w fun e w' => e = .returned (.bool true) ∧ Below w.heap.size w w' := by
  have h' : ¬ (200 : Int) < N := by omega
  have l1 : ¬ lim < 1 := by omega
  have l2 : ¬ 64 < lim := by omega
  have HR := Lib.hid hr
  have HLN := Lib.hid hl
  clear hr hl
  go_enter Try.func3, Try.ntmps3
  go_wp2_with fail
  refine (alive_true _).mono ?_
  rintro e w1 ⟨rfl, hb1⟩
  go_wp2_with fail
  refine (new_ok lim w1 h1 h2).mono ?_
  rintro e w2 ⟨rfl, hw2⟩
  have hX := new_line w1 lim
  have hb2 : Below w1.heap.size w1 (w1.alloc (.cells #[.int .i64 lim, .slice none 0 0, .slice none 0 0] 58)) := (Below.refl _ _).alloc (Nat.le_refl _) _
  rw [hw2] at hX hb2
  clear hw2
  have HR2 := Lib.hid ((HR.out.below hb1).below hb2)
  have hB2 := hb1.trans (hb2.mono hb1.size)
  have hs12 := hb2.size
  have hs01 := hb1.size
  go_wp2
  go_loopw [9, 10] (fun v i wr => ∃ (k : Nat) (A : Option Addr) (n c : Nat) (l : Lot), k ≤ N ∧ i = .int .i64 k ∧ v = .slice A n c ∧ ListIs wr A n c l.all ∧ l.right ∧ (l.n : Int) ≤ lim ∧ LineX wr w1.heap.size w1.heap.size lim l (SA A) ∧ Below w1.heap.size w2 wr) (fun _ i _ => N - (intOf i).toNat)
  case atStart => exact ⟨0, none, 0, 0, ⟨[], []⟩, by omega, rfl, rfl, listIs_nil _, ⟨fun e h => by simp at h, fun e h => by simp at h⟩, by simp [Lot.n]; omega, hX.sub _ (fun k ⟨off, h⟩ => by simp at h), Below.refl _ _⟩
  case round =>
    obtain ⟨k, A, n, c, l, hk, rfl, rfl, hL, hri, hln, hXr, hbr⟩ := hrel
    by_cases hlt : k < N
    · have hlt' : (k : Int) < N := by omega
      have hk0 : (0 : Int) ≤ k := by omega
      have hsr := hbr.size
      have hsr2 : w1.heap.size ≤ wr.heap.size := by omega
      have hRr : RdA wr A1 av := by
        obtain ⟨gx, ox, hAx, hcx⟩ := (HR.out.below hb1)
        refine ⟨gx, ox, fun hn => ⟨(hAx hn).1, by have := (hAx hn).2; omega⟩, fun i hi => ?_⟩
        have hgx := (hAx (by omega)).2
        have hbw : Below w1.heap.size w1 wr := hb2.trans hbr
        exact ⟨(hbw.cell (p := ⟨gx, _, none⟩) hgx).trans (hcx i hi).1, (hcx i hi).2.below hbw hgx⟩
      obtain ⟨gx, ox, hAx, hcx⟩ := hRr
      obtain ⟨rfl, hgx⟩ := hAx (by rw [HLN.out]; omega)
      obtain ⟨pk, p0, p1, p2, p3⟩ := hcx k (by rw [HLN.out]; exact hlt)
      clear hAx hcx
      generalize av.getD k Av.none = V at *
      obtain ⟨kd, ex, es, em, eu⟩ := V
      simp only at pk p0 p1 p2 p3
      have hbA : Below wr.heap.size wr (wr.alloc (.cells #[.int .i64 kd, .int .i64 ex, .int .i64 es, .int .i64 em, .bool eu] 35)) := (Below.refl _ _).alloc (Nat.le_refl _) _
      have hXa := hXr.more hbA (fun q => SA A q ∨ q = wr.heap.size) (fun q hq => by
        rcases hq with h | h
        · exact .inl h
        · right; simp; omega)
      have hza : (wr.alloc (.cells #[.int .i64 kd, .int .i64 ex, .int .i64 es, .int .i64 em, .bool eu] 35)).heap[wr.heap.size]? = some (.cells #[.int .i64 kd, .int .i64 ex, .int .i64 es, .int .i64 em, .bool eu] 35 (0, 0)) := by rw [heap_push]; simp
      have hLa := hL.below hbA
      have hsa : (wr.alloc (.cells #[.int .i64 kd, .int .i64 ex, .int .i64 es, .int .i64 em, .bool eu] 35)).heap.size = wr.heap.size + 1 := by simp
      have HSA := Lib.hid hsa
      have HXA := Lib.hid hXa
      have HZA := Lib.hid hza
      have HLA := Lib.hid hLa
      have HBA := Lib.hid hbA
      clear hXa hza hLa hbA hL hXr hsa
      go_wp2_with fail
      generalize wr.alloc (.cells #[.int .i64 kd, .int .i64 ex, .int .i64 es, .int .i64 em, .bool eu] 35) = wa at *
      refine (act_any w1.heap.size w1.heap.size lim l _ kd ex es em eu wa HXA.out (by have := HSA.out; omega) (by omega)).mono ?_
      rintro e w5 ⟨rfl, hX5, hB5, hk5⟩
      have hz5 := (hk5 wr.heap.size (.inr rfl)).trans HZA.out
      have hs5 : wa.heap.size ≤ w5.heap.size := hB5.size
      have hL5 := HLA.out.kept hs5 (fun q hq => hk5 q (.inl hq))
      have z0 : w5.cell? ⟨wr.heap.size, 0, none⟩ = some (.int .i64 kd) := by simp [World.cell?, hz5]
      have z1 : w5.cell? ⟨wr.heap.size, 1, none⟩ = some (.int .i64 ex) := by simp [World.cell?, hz5]
      have z2 : w5.cell? ⟨wr.heap.size, 2, none⟩ = some (.int .i64 es) := by simp [World.cell?, hz5]
      have z3 : w5.cell? ⟨wr.heap.size, 3, none⟩ = some (.int .i64 em) := by simp [World.cell?, hz5]
      have z4 : w5.cell? ⟨wr.heap.size, 4, none⟩ = some (.bool eu) := by simp [World.cell?, hz5]
      have hlt5 : wr.heap.size < w5.heap.size := lt_of_cell z0
      have hWW := Lib.hid (rfl : actW l kd ⟨ex, es, em, eu⟩ = actW l kd ⟨ex, es, em, eu⟩)
      generalize hYY : actW l kd ⟨ex, es, em, eu⟩ = Y at *
      obtain ⟨yx, ys, ym, yu⟩ := Y
      rw [show (⟨yx, ys, ym, yu⟩ : Wt).val = .agg #[.int .i64 yx, .int .i64 ys, .int .i64 ym, .bool yu] from rfl]
      have HYY := Lib.hid hYY
      have HX5 := Lib.hid hX5
      have HB5 := Lib.hid hB5
      have HL5 := Lib.hid hL5
      have hL5n := hL5.2.1
      rw [Lot.all_length] at hL5n
      have hL5c := hL5.2.2.1
      clear hYY hX5 hB5 hk5 hL5 hz5 hWW pk p0 p1 p2 p3
      have hbW : Below w5.heap.size w5 ((w5.alloc (.cells #[.int .i64 yx, .int .i64 ys, .int .i64 ym, .bool yu] 33)).alloc (.cells #[.int .i64 0, .int .i64 0, .int .i64 0, .bool false] 33)) := ((Below.refl _ _).alloc (Nat.le_refl _) _).alloc (by simp) _
      have hsW : ((w5.alloc (.cells #[.int .i64 yx, .int .i64 ys, .int .i64 ym, .bool yu] 33)).alloc (.cells #[.int .i64 0, .int .i64 0, .int .i64 0, .bool false] 33)).heap.size = w5.heap.size + 2 := by simp
      have hzY : ((w5.alloc (.cells #[.int .i64 yx, .int .i64 ys, .int .i64 ym, .bool yu] 33)).alloc (.cells #[.int .i64 0, .int .i64 0, .int .i64 0, .bool false] 33)).heap[w5.heap.size]? = some (.cells #[.int .i64 yx, .int .i64 ys, .int .i64 ym, .bool yu] 33 (0, 0)) := by rw [heap_push, heap_push]; simp
      have hzZ : ((w5.alloc (.cells #[.int .i64 yx, .int .i64 ys, .int .i64 ym, .bool yu] 33)).alloc (.cells #[.int .i64 0, .int .i64 0, .int .i64 0, .bool false] 33)).heap[w5.heap.size + 1]? = some (.cells #[.int .i64 0, .int .i64 0, .int .i64 0, .bool false] 33 (0, 0)) := by rw [heap_push]; simp
      have HZY := Lib.hid hzY
      have HZZ := Lib.hid hzZ
      have HBW := Lib.hid hbW
      have HSW := Lib.hid hsW
      clear hzY hzZ hbW hsW
      by_cases k0 : kd = 0
      · subst k0
        have hpe : dPushE l.all lim ⟨ex, es, em, eu⟩ = actE l lim 0 ⟨ex, es, em, eu⟩ := pushE_doc l lim _ hln
        obtain ⟨hdoc0, hdoc⟩ : dPush l.all lim ⟨ex, es, em, eu⟩ = (actL l lim 0 ⟨ex, es, em, eu⟩).all ∧ (actL l lim 0 ⟨ex, es, em, eu⟩).right ∧ ((actL l lim 0 ⟨ex, es, em, eu⟩).n : Int) ≤ lim := push_doc l lim ⟨ex, es, em, eu⟩ hri hln
        have hpush := fun W (hLW : ListIs W A n c l.all) => rpush_v A n c l.all lim ex es em eu W hLW (by have := hL5n; omega)
        rw [hpe, hdoc0] at hpush
        generalize actL l lim 0 ⟨ex, es, em, eu⟩ = L8 at *
        generalize actE l lim 0 ⟨ex, es, em, eu⟩ = pe at *
        have HP := Lib.hid hpush
        clear hpush
        obtain ⟨rfl, rfl, rfl, rfl⟩ := Wt.mk.inj (show Wt.mk 0 0 0 false = Wt.mk yx ys ym yu from HYY.out)
        go_wp2_with fail
        generalize (w5.alloc (.cells #[.int .i64 0, .int .i64 0, .int .i64 0, .bool false] 33)).alloc (.cells #[.int .i64 0, .int .i64 0, .int .i64 0, .bool false] 33) = W at *
        refine (HP.out W (HL5.out.below HBW.out)).mono ?_
        rintro e w8 ⟨⟨v8, rfl, A8, n8, c8, rfl, hL8, hS8⟩, hb8⟩
        have hs8 := hb8.size
        have hb58 := HBW.out.trans (hb8.mono HBW.out.size)
        have hY8 := (hb8.block _ (Array.getElem?_eq_some_iff.1 HZY.out).1).trans HZY.out
        have hZ8 := (hb8.block _ (Array.getElem?_eq_some_iff.1 HZZ.out).1).trans HZZ.out
        have y0 : w8.cell? ⟨w5.heap.size, 0, none⟩ = some (.int .i64 0) := by simp [World.cell?, hY8]
        have y1 : w8.cell? ⟨w5.heap.size, 1, none⟩ = some (.int .i64 0) := by simp [World.cell?, hY8]
        have y2 : w8.cell? ⟨w5.heap.size, 2, none⟩ = some (.int .i64 0) := by simp [World.cell?, hY8]
        have y3 : w8.cell? ⟨w5.heap.size, 3, none⟩ = some (.bool false) := by simp [World.cell?, hY8]
        have t0 : w8.cell? ⟨w5.heap.size + 1, 0, none⟩ = some (.int .i64 0) := by simp [World.cell?, hZ8]
        have t1 : w8.cell? ⟨w5.heap.size + 1, 1, none⟩ = some (.int .i64 0) := by simp [World.cell?, hZ8]
        have t2 : w8.cell? ⟨w5.heap.size + 1, 2, none⟩ = some (.int .i64 0) := by simp [World.cell?, hZ8]
        have t3 : w8.cell? ⟨w5.heap.size + 1, 3, none⟩ = some (.bool false) := by simp [World.cell?, hZ8]
        clear hY8 hZ8
        have hs58 := hb58.size
        have hX8 := HX5.out.more hb58 (SA A8) (fun q hq => by
          rcases hS8 q hq with h | ⟨h1, h2⟩
          · exact .inl (.inl h)
          · right; exact ⟨by have := HSW.out; omega, h2⟩)
        have HX8 := Lib.hid hX8
        have HL8 := Lib.hid hL8
        have HD := Lib.hid hdoc
        have HB58 := Lib.hid hb58
        clear hX8 hL8 hdoc hb58
        go_wp2_with fail
        refine (all_x w1.heap.size w1.heap.size lim L8 _ w8 HX8.out (by have := HD.out.2; omega)).mono ?_
        rintro e w9 ⟨⟨v9, rfl, hown9⟩, hb9⟩
        obtain ⟨hl9, A9, c9, rfl, hc9, hr9⟩ := rdw_of_own hown9
        have hs9 := hb9.size
        have hX9 := HX8.out.more hb9 (SA A8) (fun q hq => .inl hq)
        have hL9 := HL8.out.below hb9
        have hn89 : L8.n = n8 := by have := hL9.2.1; rw [Lot.all_length] at this; exact this
        have HX9 := Lib.hid hX9
        have HL9 := Lib.hid hL9
        have hb59 := HB58.out.trans (hb9.mono (by omega))
        have HB59 := Lib.hid hb59
        have HR9 := Lib.hid hr9
        rw [hn89]
        clear hX9 hL9 hb9 hb59 hr9 hown9 hl9
        go_wp2_with fail
        refine (same_true A9 A8 n8 c9 c8 L8.all w9 HR9.out HL9.out.1 ((Lot.all_length L8).trans hn89) (by have := HD.out.2; have := hn89; omega)).mono ?_
        rintro e w10 ⟨rfl, hb10⟩
        have hs10 := hb10.size
        have HX10 := Lib.hid (HX9.out.more hb10 (SA A8) (fun q hq => .inl hq))
        have HL10 := Lib.hid (HL9.out.below hb10)
        have HB10 := Lib.hid (((((hbr.trans (HBA.out.mono hsr2)).trans (HB5.out.mono (by omega))).trans (HB59.out.mono (by omega)))).trans (hb10.mono (by omega)))
        clear hb10
        go_wp2_with fail
        refine ⟨⟨k + 1, A8, _, c8, L8, by omega, by simp, rfl, HL10.out, HD.out.1, HD.out.2, HX10.out, HB10.out⟩, ?_⟩
        simp only [intOf]
        omega
      · by_cases k1 : kd = 1
        · subst k1
          have hdocL : dLeave l.all (popT l) = (actL l lim 1 ⟨ex, es, em, eu⟩).all ∧ (actL l lim 1 ⟨ex, es, em, eu⟩).right ∧ ((actL l lim 1 ⟨ex, es, em, eu⟩).n : Int) ≤ lim := by
            obtain ⟨h1, h2, h3⟩ := leave_doc l (popT l) hri
            exact ⟨h1, h2, by have : (leaveL l (popT l)).n = (actL l lim 1 ⟨ex, es, em, eu⟩).n := rfl; omega⟩
          obtain ⟨hdoc0, hdoc⟩ := hdocL
          have hle : ∀ W, ListIs W A n c l.all → Calls Try.prog 12 #[.slice A n c, .int .i64 (popT l)] W fun r w' => (∃ v, r = .returned (.tuple #[v, (actW l 1 ⟨ex, es, em, eu⟩).val, .int .i64 (actE l lim 1 ⟨ex, es, em, eu⟩)]) ∧ Then W w' A (actL l lim 1 ⟨ex, es, em, eu⟩).all v) ∧ Below W.heap.size W w' := fun W hLW => rleave_x A n c l (popT l) W hLW (by have := hL5n; omega) hri
          rw [HYY.out] at hle
          rw [show (⟨yx, ys, ym, yu⟩ : Wt).val = .agg #[.int .i64 yx, .int .i64 ys, .int .i64 ym, .bool yu] from rfl] at hle
          generalize actL l lim 1 ⟨ex, es, em, eu⟩ = L8 at *
          generalize actE l lim 1 ⟨ex, es, em, eu⟩ = pe at *
          have HP := Lib.hid hle
          clear hle
          have HPT := Lib.hid (show (l.all.getD 0 Wt.none).x = popT l from rfl)
          generalize popT l = pt at *
          by_cases hn0 : n = 0
          · have hnn : ¬ (0 : Int) < n := by omega
            have hp0 : pt = 0 := by
              rw [← HPT.out, List.eq_nil_of_length_eq_zero (show l.all.length = 0 by rw [Lot.all_length]; omega)]; rfl
            rw [hp0] at HP
            subst hn0
            go_wp2_with fail
            generalize (w5.alloc (.cells #[.int .i64 yx, .int .i64 ys, .int .i64 ym, .bool yu] 33)).alloc (.cells #[.int .i64 0, .int .i64 0, .int .i64 0, .bool false] 33) = W at *
            refine (HP.out W (HL5.out.below HBW.out)).mono ?_
            rintro e w7 ⟨⟨v8, rfl, A8, n8, c8, rfl, hL7, hS7⟩, hb7⟩
            have hs7 := hb7.size
            have hb57 := HBW.out.trans (hb7.mono HBW.out.size)
            have hY8 := (hb7.block _ (Array.getElem?_eq_some_iff.1 HZY.out).1).trans HZY.out
            have hZ8 := (hb7.block _ (Array.getElem?_eq_some_iff.1 HZZ.out).1).trans HZZ.out
            have y0 : w7.cell? ⟨w5.heap.size, 0, none⟩ = some (.int .i64 yx) := by simp [World.cell?, hY8]
            have y1 : w7.cell? ⟨w5.heap.size, 1, none⟩ = some (.int .i64 ys) := by simp [World.cell?, hY8]
            have y2 : w7.cell? ⟨w5.heap.size, 2, none⟩ = some (.int .i64 ym) := by simp [World.cell?, hY8]
            have y3 : w7.cell? ⟨w5.heap.size, 3, none⟩ = some (.bool yu) := by simp [World.cell?, hY8]
            have t0 : w7.cell? ⟨w5.heap.size + 1, 0, none⟩ = some (.int .i64 0) := by simp [World.cell?, hZ8]
            have t1 : w7.cell? ⟨w5.heap.size + 1, 1, none⟩ = some (.int .i64 0) := by simp [World.cell?, hZ8]
            have t2 : w7.cell? ⟨w5.heap.size + 1, 2, none⟩ = some (.int .i64 0) := by simp [World.cell?, hZ8]
            have t3 : w7.cell? ⟨w5.heap.size + 1, 3, none⟩ = some (.bool false) := by simp [World.cell?, hZ8]
            have d0 := frozen_of7 hZ8 (j := 0)
            have d1 := frozen_of7 hZ8 (j := 1)
            have d2 := frozen_of7 hZ8 (j := 2)
            have d3 := frozen_of7 hZ8 (j := 3)
            obtain ⟨q0, q1, q2, q3⟩ := set4 t0 t1 t2 t3 (.int .i64 yx) (.int .i64 ys) (.int .i64 ym) (.bool yu)
            have hge5 : w5.heap.size ≤ w5.heap.size + 1 := by omega
            have hb58 := (((hb57.setCell (p := ⟨w5.heap.size + 1, 0, none⟩) hge5 (.int .i64 yx)).setCell (p := ⟨w5.heap.size + 1, 1, none⟩) hge5 (.int .i64 ys)).setCell (p := ⟨w5.heap.size + 1, 2, none⟩) hge5 (.int .i64 ym)).setCell (p := ⟨w5.heap.size + 1, 3, none⟩) hge5 (.bool yu)
            have hs58 := hb58.size
            have hkept : ∀ q, SA A8 q → ((((w7.setCell ⟨w5.heap.size + 1, 0, none⟩ (.int .i64 yx)).setCell ⟨w5.heap.size + 1, 1, none⟩ (.int .i64 ys)).setCell ⟨w5.heap.size + 1, 2, none⟩ (.int .i64 ym)).setCell ⟨w5.heap.size + 1, 3, none⟩ (.bool yu)).heap[q]? = w7.heap[q]? := fun q hq => by
              have hne : q ≠ w5.heap.size + 1 := by
                rcases hS7 q hq with h | ⟨h1, h2⟩
                · obtain ⟨_, _, _, _, _, _, _, _, _, hS⟩ := HX5.out
                  have := (hS q (.inl h)).1; omega
                · have := HSW.out; omega
              rw [Below.heap_setCell _ _ _ q hne, Below.heap_setCell _ _ _ q hne, Below.heap_setCell _ _ _ q hne, Below.heap_setCell _ _ _ q hne]
            have hL8 := hL7.kept (by simp) hkept
            have hX8 := HX5.out.more hb58 (SA A8) (fun q hq => by
              rcases hS7 q hq with h | ⟨h1, h2⟩
              · exact .inl (.inl h)
              · right; exact ⟨by have := HSW.out; omega, by simpa using h2⟩)
            have HX8 := Lib.hid hX8
            have HL8 := Lib.hid hL8
            have HD := Lib.hid hdoc
            have HB58 := Lib.hid hb58
            clear hX8 hL8 hdoc hb58 hb57 hkept hL7 hY8 hZ8
            go_wp2_with fail
            generalize (((w7.setCell ⟨w5.heap.size + 1, 0, none⟩ (.int .i64 yx)).setCell ⟨w5.heap.size + 1, 1, none⟩ (.int .i64 ys)).setCell ⟨w5.heap.size + 1, 2, none⟩ (.int .i64 ym)).setCell ⟨w5.heap.size + 1, 3, none⟩ (.bool yu) = w8 at *
            refine (all_x w1.heap.size w1.heap.size lim L8 _ w8 HX8.out (by have := HD.out.2; omega)).mono ?_
            rintro e w9 ⟨⟨v9, rfl, hown9⟩, hb9⟩
            obtain ⟨hl9, A9, c9, rfl, hc9, hr9⟩ := rdw_of_own hown9
            have hs9 := hb9.size
            have hX9 := HX8.out.more hb9 (SA A8) (fun q hq => .inl hq)
            have hL9 := HL8.out.below hb9
            have hn89 : L8.n = n8 := by have := hL9.2.1; rw [Lot.all_length] at this; exact this
            have HX9 := Lib.hid hX9
            have HL9 := Lib.hid hL9
            have hb59 := HB58.out.trans (hb9.mono (by omega))
            have HB59 := Lib.hid hb59
            have HR9 := Lib.hid hr9
            rw [hn89]
            clear hX9 hL9 hb9 hb59 hr9 hown9 hl9
            go_wp2_with fail
            refine (same_true A9 A8 n8 c9 c8 L8.all w9 HR9.out HL9.out.1 ((Lot.all_length L8).trans hn89) (by have := HD.out.2; have := hn89; omega)).mono ?_
            rintro e w10 ⟨rfl, hb10⟩
            have hs10 := hb10.size
            have HX10 := Lib.hid (HX9.out.more hb10 (SA A8) (fun q hq => .inl hq))
            have HL10 := Lib.hid (HL9.out.below hb10)
            have HB10 := Lib.hid (((((hbr.trans (HBA.out.mono hsr2)).trans (HB5.out.mono (by omega))).trans (HB59.out.mono (by omega)))).trans (hb10.mono (by omega)))
            clear hb10
            go_wp2_with fail
            refine ⟨⟨k + 1, A8, _, c8, L8, by omega, by simp, rfl, HL10.out, HD.out.1, HD.out.2, HX10.out, HB10.out⟩, ?_⟩
            simp only [intOf]
            omega
          · have hnn : (0 : Int) < n := by omega
            obtain ⟨gv, ov, hAv, hcv⟩ := HL5.out.1
            obtain ⟨rfl, hgv⟩ := hAv (by rw [Lot.all_length]; omega)
            obtain ⟨v0, _⟩ := hcv 0 (by rw [Lot.all_length]; omega)
            rw [HPT.out, Nat.zero_mul, Nat.add_zero] at v0
            have hgv2 : gv ≠ w5.heap.size := by omega
            have hgv3 : gv ≠ w5.heap.size + 1 := by omega
            clear hAv hcv
            go_wp2_with fail
            generalize (w5.alloc (.cells #[.int .i64 yx, .int .i64 ys, .int .i64 ym, .bool yu] 33)).alloc (.cells #[.int .i64 0, .int .i64 0, .int .i64 0, .bool false] 33) = W at *
            refine (HP.out W (HL5.out.below HBW.out)).mono ?_
            rintro e w7 ⟨⟨v8, rfl, A8, n8, c8, rfl, hL7, hS7⟩, hb7⟩
            have hs7 := hb7.size
            have hb57 := HBW.out.trans (hb7.mono HBW.out.size)
            have hY8 := (hb7.block _ (Array.getElem?_eq_some_iff.1 HZY.out).1).trans HZY.out
            have hZ8 := (hb7.block _ (Array.getElem?_eq_some_iff.1 HZZ.out).1).trans HZZ.out
            have y0 : w7.cell? ⟨w5.heap.size, 0, none⟩ = some (.int .i64 yx) := by simp [World.cell?, hY8]
            have y1 : w7.cell? ⟨w5.heap.size, 1, none⟩ = some (.int .i64 ys) := by simp [World.cell?, hY8]
            have y2 : w7.cell? ⟨w5.heap.size, 2, none⟩ = some (.int .i64 ym) := by simp [World.cell?, hY8]
            have y3 : w7.cell? ⟨w5.heap.size, 3, none⟩ = some (.bool yu) := by simp [World.cell?, hY8]
            have t0 : w7.cell? ⟨w5.heap.size + 1, 0, none⟩ = some (.int .i64 0) := by simp [World.cell?, hZ8]
            have t1 : w7.cell? ⟨w5.heap.size + 1, 1, none⟩ = some (.int .i64 0) := by simp [World.cell?, hZ8]
            have t2 : w7.cell? ⟨w5.heap.size + 1, 2, none⟩ = some (.int .i64 0) := by simp [World.cell?, hZ8]
            have t3 : w7.cell? ⟨w5.heap.size + 1, 3, none⟩ = some (.bool false) := by simp [World.cell?, hZ8]
            have d0 := frozen_of7 hZ8 (j := 0)
            have d1 := frozen_of7 hZ8 (j := 1)
            have d2 := frozen_of7 hZ8 (j := 2)
            have d3 := frozen_of7 hZ8 (j := 3)
            obtain ⟨q0, q1, q2, q3⟩ := set4 t0 t1 t2 t3 (.int .i64 yx) (.int .i64 ys) (.int .i64 ym) (.bool yu)
            have hge5 : w5.heap.size ≤ w5.heap.size + 1 := by omega
            have hb58 := (((hb57.setCell (p := ⟨w5.heap.size + 1, 0, none⟩) hge5 (.int .i64 yx)).setCell (p := ⟨w5.heap.size + 1, 1, none⟩) hge5 (.int .i64 ys)).setCell (p := ⟨w5.heap.size + 1, 2, none⟩) hge5 (.int .i64 ym)).setCell (p := ⟨w5.heap.size + 1, 3, none⟩) hge5 (.bool yu)
            have hs58 := hb58.size
            have hkept : ∀ q, SA A8 q → ((((w7.setCell ⟨w5.heap.size + 1, 0, none⟩ (.int .i64 yx)).setCell ⟨w5.heap.size + 1, 1, none⟩ (.int .i64 ys)).setCell ⟨w5.heap.size + 1, 2, none⟩ (.int .i64 ym)).setCell ⟨w5.heap.size + 1, 3, none⟩ (.bool yu)).heap[q]? = w7.heap[q]? := fun q hq => by
              have hne : q ≠ w5.heap.size + 1 := by
                rcases hS7 q hq with h | ⟨h1, h2⟩
                · obtain ⟨_, _, _, _, _, _, _, _, _, hS⟩ := HX5.out
                  have := (hS q (.inl h)).1; omega
                · have := HSW.out; omega
              rw [Below.heap_setCell _ _ _ q hne, Below.heap_setCell _ _ _ q hne, Below.heap_setCell _ _ _ q hne, Below.heap_setCell _ _ _ q hne]
            have hL8 := hL7.kept (by simp) hkept
            have hX8 := HX5.out.more hb58 (SA A8) (fun q hq => by
              rcases hS7 q hq with h | ⟨h1, h2⟩
              · exact .inl (.inl h)
              · right; exact ⟨by have := HSW.out; omega, by simpa using h2⟩)
            have HX8 := Lib.hid hX8
            have HL8 := Lib.hid hL8
            have HD := Lib.hid hdoc
            have HB58 := Lib.hid hb58
            clear hX8 hL8 hdoc hb58 hb57 hkept hL7 hY8 hZ8
            go_wp2_with fail
            generalize (((w7.setCell ⟨w5.heap.size + 1, 0, none⟩ (.int .i64 yx)).setCell ⟨w5.heap.size + 1, 1, none⟩ (.int .i64 ys)).setCell ⟨w5.heap.size + 1, 2, none⟩ (.int .i64 ym)).setCell ⟨w5.heap.size + 1, 3, none⟩ (.bool yu) = w8 at *
            refine (all_x w1.heap.size w1.heap.size lim L8 _ w8 HX8.out (by have := HD.out.2; omega)).mono ?_
            rintro e w9 ⟨⟨v9, rfl, hown9⟩, hb9⟩
            obtain ⟨hl9, A9, c9, rfl, hc9, hr9⟩ := rdw_of_own hown9
            have hs9 := hb9.size
            have hX9 := HX8.out.more hb9 (SA A8) (fun q hq => .inl hq)
            have hL9 := HL8.out.below hb9
            have hn89 : L8.n = n8 := by have := hL9.2.1; rw [Lot.all_length] at this; exact this
            have HX9 := Lib.hid hX9
            have HL9 := Lib.hid hL9
            have hb59 := HB58.out.trans (hb9.mono (by omega))
            have HB59 := Lib.hid hb59
            have HR9 := Lib.hid hr9
            rw [hn89]
            clear hX9 hL9 hb9 hb59 hr9 hown9 hl9
            go_wp2_with fail
            refine (same_true A9 A8 n8 c9 c8 L8.all w9 HR9.out HL9.out.1 ((Lot.all_length L8).trans hn89) (by have := HD.out.2; have := hn89; omega)).mono ?_
            rintro e w10 ⟨rfl, hb10⟩
            have hs10 := hb10.size
            have HX10 := Lib.hid (HX9.out.more hb10 (SA A8) (fun q hq => .inl hq))
            have HL10 := Lib.hid (HL9.out.below hb10)
            have HB10 := Lib.hid (((((hbr.trans (HBA.out.mono hsr2)).trans (HB5.out.mono (by omega))).trans (HB59.out.mono (by omega)))).trans (hb10.mono (by omega)))
            clear hb10
            go_wp2_with fail
            refine ⟨⟨k + 1, A8, _, c8, L8, by omega, by simp, rfl, HL10.out, HD.out.1, HD.out.2, HX10.out, HB10.out⟩, ?_⟩
            simp only [intOf]
            omega
        · by_cases k2 : kd = 2
          · subst k2
            have hdocL : dLeave l.all ex = (actL l lim 2 ⟨ex, es, em, eu⟩).all ∧ (actL l lim 2 ⟨ex, es, em, eu⟩).right ∧ ((actL l lim 2 ⟨ex, es, em, eu⟩).n : Int) ≤ lim := by
              obtain ⟨h1, h2, h3⟩ := leave_doc l ex hri
              exact ⟨h1, h2, by have : (leaveL l ex).n = (actL l lim 2 ⟨ex, es, em, eu⟩).n := rfl; omega⟩
            obtain ⟨hdoc0, hdoc⟩ := hdocL
            have hle : ∀ W, ListIs W A n c l.all → Calls Try.prog 12 #[.slice A n c, .int .i64 ex] W fun r w' => (∃ v, r = .returned (.tuple #[v, (actW l 2 ⟨ex, es, em, eu⟩).val, .int .i64 (actE l lim 2 ⟨ex, es, em, eu⟩)]) ∧ Then W w' A (actL l lim 2 ⟨ex, es, em, eu⟩).all v) ∧ Below W.heap.size W w' := fun W hLW => rleave_x A n c l ex W hLW (by have := hL5n; omega) hri
            rw [HYY.out] at hle
            rw [show (⟨yx, ys, ym, yu⟩ : Wt).val = .agg #[.int .i64 yx, .int .i64 ys, .int .i64 ym, .bool yu] from rfl] at hle
            generalize actL l lim 2 ⟨ex, es, em, eu⟩ = L8 at *
            generalize actE l lim 2 ⟨ex, es, em, eu⟩ = pe at *
            have HP := Lib.hid hle
            clear hle
            go_wp2_with fail
            generalize (w5.alloc (.cells #[.int .i64 yx, .int .i64 ys, .int .i64 ym, .bool yu] 33)).alloc (.cells #[.int .i64 0, .int .i64 0, .int .i64 0, .bool false] 33) = W at *
            refine (HP.out W (HL5.out.below HBW.out)).mono ?_
            rintro e w7 ⟨⟨v8, rfl, A8, n8, c8, rfl, hL7, hS7⟩, hb7⟩
            have hs7 := hb7.size
            have hb57 := HBW.out.trans (hb7.mono HBW.out.size)
            have hY8 := (hb7.block _ (Array.getElem?_eq_some_iff.1 HZY.out).1).trans HZY.out
            have hZ8 := (hb7.block _ (Array.getElem?_eq_some_iff.1 HZZ.out).1).trans HZZ.out
            have y0 : w7.cell? ⟨w5.heap.size, 0, none⟩ = some (.int .i64 yx) := by simp [World.cell?, hY8]
            have y1 : w7.cell? ⟨w5.heap.size, 1, none⟩ = some (.int .i64 ys) := by simp [World.cell?, hY8]
            have y2 : w7.cell? ⟨w5.heap.size, 2, none⟩ = some (.int .i64 ym) := by simp [World.cell?, hY8]
            have y3 : w7.cell? ⟨w5.heap.size, 3, none⟩ = some (.bool yu) := by simp [World.cell?, hY8]
            have t0 : w7.cell? ⟨w5.heap.size + 1, 0, none⟩ = some (.int .i64 0) := by simp [World.cell?, hZ8]
            have t1 : w7.cell? ⟨w5.heap.size + 1, 1, none⟩ = some (.int .i64 0) := by simp [World.cell?, hZ8]
            have t2 : w7.cell? ⟨w5.heap.size + 1, 2, none⟩ = some (.int .i64 0) := by simp [World.cell?, hZ8]
            have t3 : w7.cell? ⟨w5.heap.size + 1, 3, none⟩ = some (.bool false) := by simp [World.cell?, hZ8]
            have d0 := frozen_of7 hZ8 (j := 0)
            have d1 := frozen_of7 hZ8 (j := 1)
            have d2 := frozen_of7 hZ8 (j := 2)
            have d3 := frozen_of7 hZ8 (j := 3)
            obtain ⟨q0, q1, q2, q3⟩ := set4 t0 t1 t2 t3 (.int .i64 yx) (.int .i64 ys) (.int .i64 ym) (.bool yu)
            have hge5 : w5.heap.size ≤ w5.heap.size + 1 := by omega
            have hb58 := (((hb57.setCell (p := ⟨w5.heap.size + 1, 0, none⟩) hge5 (.int .i64 yx)).setCell (p := ⟨w5.heap.size + 1, 1, none⟩) hge5 (.int .i64 ys)).setCell (p := ⟨w5.heap.size + 1, 2, none⟩) hge5 (.int .i64 ym)).setCell (p := ⟨w5.heap.size + 1, 3, none⟩) hge5 (.bool yu)
            have hs58 := hb58.size
            have hkept : ∀ q, SA A8 q → ((((w7.setCell ⟨w5.heap.size + 1, 0, none⟩ (.int .i64 yx)).setCell ⟨w5.heap.size + 1, 1, none⟩ (.int .i64 ys)).setCell ⟨w5.heap.size + 1, 2, none⟩ (.int .i64 ym)).setCell ⟨w5.heap.size + 1, 3, none⟩ (.bool yu)).heap[q]? = w7.heap[q]? := fun q hq => by
              have hne : q ≠ w5.heap.size + 1 := by
                rcases hS7 q hq with h | ⟨h1, h2⟩
                · obtain ⟨_, _, _, _, _, _, _, _, _, hS⟩ := HX5.out
                  have := (hS q (.inl h)).1; omega
                · have := HSW.out; omega
              rw [Below.heap_setCell _ _ _ q hne, Below.heap_setCell _ _ _ q hne, Below.heap_setCell _ _ _ q hne, Below.heap_setCell _ _ _ q hne]
            have hL8 := hL7.kept (by simp) hkept
            have hX8 := HX5.out.more hb58 (SA A8) (fun q hq => by
              rcases hS7 q hq with h | ⟨h1, h2⟩
              · exact .inl (.inl h)
              · right; exact ⟨by have := HSW.out; omega, by simpa using h2⟩)
            have HX8 := Lib.hid hX8
            have HL8 := Lib.hid hL8
            have HD := Lib.hid hdoc
            have HB58 := Lib.hid hb58
            clear hX8 hL8 hdoc hb58 hb57 hkept hL7 hY8 hZ8
            go_wp2_with fail
            generalize (((w7.setCell ⟨w5.heap.size + 1, 0, none⟩ (.int .i64 yx)).setCell ⟨w5.heap.size + 1, 1, none⟩ (.int .i64 ys)).setCell ⟨w5.heap.size + 1, 2, none⟩ (.int .i64 ym)).setCell ⟨w5.heap.size + 1, 3, none⟩ (.bool yu) = w8 at *
            refine (all_x w1.heap.size w1.heap.size lim L8 _ w8 HX8.out (by have := HD.out.2; omega)).mono ?_
            rintro e w9 ⟨⟨v9, rfl, hown9⟩, hb9⟩
            obtain ⟨hl9, A9, c9, rfl, hc9, hr9⟩ := rdw_of_own hown9
            have hs9 := hb9.size
            have hX9 := HX8.out.more hb9 (SA A8) (fun q hq => .inl hq)
            have hL9 := HL8.out.below hb9
            have hn89 : L8.n = n8 := by have := hL9.2.1; rw [Lot.all_length] at this; exact this
            have HX9 := Lib.hid hX9
            have HL9 := Lib.hid hL9
            have hb59 := HB58.out.trans (hb9.mono (by omega))
            have HB59 := Lib.hid hb59
            have HR9 := Lib.hid hr9
            rw [hn89]
            clear hX9 hL9 hb9 hb59 hr9 hown9 hl9
            go_wp2_with fail
            refine (same_true A9 A8 n8 c9 c8 L8.all w9 HR9.out HL9.out.1 ((Lot.all_length L8).trans hn89) (by have := HD.out.2; have := hn89; omega)).mono ?_
            rintro e w10 ⟨rfl, hb10⟩
            have hs10 := hb10.size
            have HX10 := Lib.hid (HX9.out.more hb10 (SA A8) (fun q hq => .inl hq))
            have HL10 := Lib.hid (HL9.out.below hb10)
            have HB10 := Lib.hid (((((hbr.trans (HBA.out.mono hsr2)).trans (HB5.out.mono (by omega))).trans (HB59.out.mono (by omega)))).trans (hb10.mono (by omega)))
            clear hb10
            go_wp2_with fail
            refine ⟨⟨k + 1, A8, _, c8, L8, by omega, by simp, rfl, HL10.out, HD.out.1, HD.out.2, HX10.out, HB10.out⟩, ?_⟩
            simp only [intOf]
            omega
          · have hdL : actL l lim kd ⟨ex, es, em, eu⟩ = l := by unfold actL; rw [if_neg k0, if_neg k1, if_neg k2]
            have hdE : actE l lim kd ⟨ex, es, em, eu⟩ = 0 := by unfold actE; rw [if_neg k0, if_neg k1, if_neg k2]
            have hdW : actW l kd ⟨ex, es, em, eu⟩ = Wt.none := by unfold actW; rw [if_neg k1, if_neg k2]
            obtain ⟨rfl, rfl, rfl, rfl⟩ := Wt.mk.inj (show Wt.mk 0 0 0 false = Wt.mk yx ys ym yu from hdW.symm.trans HYY.out)
            have HX5 := HX5.out
            rw [hdL] at HX5
            rw [hdE]
            have b0 : (kd == 0) = false := by simp [k0]
            have b1 : (kd == 1) = false := by simp [k1]
            have b2 : (kd == 2) = false := by simp [k2]
            have hs58 := HBW.out.size
            have HX8 := Lib.hid (HX5.more HBW.out (SA A) (fun q hq => .inl (.inl hq)))
            have HL8 := Lib.hid (HL5.out.below HBW.out)
            have HD : Hid (l.right ∧ (l.n : Int) ≤ lim) := Lib.hid ⟨hri, hln⟩
            have HB58 := HBW
            clear hdL hdE hdW k0 k1 k2
            go_wp2_with fail
            generalize (w5.alloc (.cells #[.int .i64 0, .int .i64 0, .int .i64 0, .bool false] 33)).alloc (.cells #[.int .i64 0, .int .i64 0, .int .i64 0, .bool false] 33) = w8 at *
            refine (all_x w1.heap.size w1.heap.size lim l _ w8 HX8.out (by have := HD.out.2; omega)).mono ?_
            rintro e w9 ⟨⟨v9, rfl, hown9⟩, hb9⟩
            obtain ⟨hl9, A9, c9, rfl, hc9, hr9⟩ := rdw_of_own hown9
            have hs9 := hb9.size
            have hX9 := HX8.out.more hb9 (SA A) (fun q hq => .inl hq)
            have hL9 := HL8.out.below hb9
            have hn89 : l.n = n := by have := hL9.2.1; rw [Lot.all_length] at this; exact this
            have HX9 := Lib.hid hX9
            have HL9 := Lib.hid hL9
            have hb59 := HB58.out.trans (hb9.mono (by omega))
            have HB59 := Lib.hid hb59
            have HR9 := Lib.hid hr9
            rw [hn89]
            clear hX9 hL9 hb9 hb59 hr9 hown9 hl9
            go_wp2_with fail
            refine (same_true A9 A n c9 c l.all w9 HR9.out HL9.out.1 ((Lot.all_length l).trans hn89) (by have := HD.out.2; have := hn89; omega)).mono ?_
            rintro e w10 ⟨rfl, hb10⟩
            have hs10 := hb10.size
            have HX10 := Lib.hid (HX9.out.more hb10 (SA A) (fun q hq => .inl hq))
            have HL10 := Lib.hid (HL9.out.below hb10)
            have HB10 := Lib.hid (((((hbr.trans (HBA.out.mono hsr2)).trans (HB5.out.mono (by omega))).trans (HB59.out.mono (by omega)))).trans (hb10.mono (by omega)))
            clear hb10
            go_wp2_with fail
            refine ⟨⟨k + 1, A, _, c, l, by omega, by simp, rfl, HL10.out, HD.out.1, HD.out.2, HX10.out, HB10.out⟩, ?_⟩
            simp only [intOf]
            omega
    · have hge : ¬ (k : Int) < N := by omega
      have hl5 := hL.2.1
      have hlen : l.n = n := by rw [Lot.all_length] at hl5; exact hl5
      have hlc := hL.2.2.1
      have hBs := hbr.size
      go_wp2_with fail
      refine (rfind_any A n c l.all tx wr hL.1 hl5 (by omega)).mono ?_
      rintro e w3 ⟨rfl, rfl⟩
      by_cases hf : findW l.all tx < l.all.length
      · have hF : findI l.all tx = (findW l.all tx : Int) := by unfold findI; rw [if_pos hf]
        have hh : l.has tx = true := decide_eq_true hf
        have hE : errV (leaveE l tx) = .nilIface := by unfold leaveE; rw [if_pos hh]; rfl
        have hW : leaveW l tx = l.all.getD (findW l.all tx) Wt.none := by unfold leaveW; rw [if_pos hh]
        have hA : aheadN l tx = findW l.all tx := by unfold aheadN; rw [if_pos (by rw [← Lot.all_length]; exact hf)]
        have hfind := find_any w1.heap.size w1.heap.size lim l (SA A) tx wr hXr (by omega)
        have hahead := fun W (hXW : LineX W w1.heap.size w1.heap.size lim l (SA A)) => ahead_any w1.heap.size w1.heap.size lim l (SA A) tx W hXW (by omega)
        rw [hE, hW] at hfind
        rw [hA] at hahead
        rw [hF]
        rw [hl5] at hf
        obtain ⟨gv, ov, hAv, hcv⟩ := hL.1
        obtain ⟨rfl, hgv⟩ := hAv (by omega)
        obtain ⟨p0, p1, p2, p3⟩ := hcv _ (by rw [hl5]; exact hf)
        generalize findW l.all tx = F at *
        generalize l.all.getD F Wt.none = E at *
        obtain ⟨ex, es, em, eu⟩ := E
        rw [show (⟨ex, es, em, eu⟩ : Wt).val = .agg #[.int .i64 ex, .int .i64 es, .int .i64 em, .bool eu] from rfl] at hfind
        simp only at p0 p1 p2 p3
        have HFI := Lib.hid hfind
        have HAH := Lib.hid hahead
        have HX := Lib.hid hXr
        have HL := Lib.hid hL
        have HBR := Lib.hid hbr
        clear hfind hahead hXr hL hbr hF hh hE hW hA hAv hcv
        have f0 : (0 : Int) ≤ F := by omega
        have f1 : ¬ (F : Int) < 0 := by omega
        go_wp2_with fail
        refine (HFI.out).mono ?_
        rintro e w4 ⟨rfl, hb4⟩
        have hs4 := hb4.size
        have hbx : Below w4.heap.size w4 (w4.alloc (.cells #[.int .i64 ex, .int .i64 es, .int .i64 em, .bool eu] 33)) := (Below.refl _ _).alloc (Nat.le_refl _) _
        have hbx2 := hb4.trans (hbx.mono hs4)
        have v0 := (hbx2.cell (p := ⟨gv, _, none⟩) hgv).trans p0
        have v1 := (hbx2.cell (p := ⟨gv, _, none⟩) hgv).trans p1
        have v2 := (hbx2.cell (p := ⟨gv, _, none⟩) hgv).trans p2
        have v3 := (hbx2.cell (p := ⟨gv, _, none⟩) hgv).trans p3
        have y0 : (w4.alloc (.cells #[.int .i64 ex, .int .i64 es, .int .i64 em, .bool eu] 33)).cell? ⟨w4.heap.size, 0, none⟩ = some (.int .i64 ex) := by simp
        have y1 : (w4.alloc (.cells #[.int .i64 ex, .int .i64 es, .int .i64 em, .bool eu] 33)).cell? ⟨w4.heap.size, 1, none⟩ = some (.int .i64 es) := by simp
        have y2 : (w4.alloc (.cells #[.int .i64 ex, .int .i64 es, .int .i64 em, .bool eu] 33)).cell? ⟨w4.heap.size, 2, none⟩ = some (.int .i64 em) := by simp
        have y3 : (w4.alloc (.cells #[.int .i64 ex, .int .i64 es, .int .i64 em, .bool eu] 33)).cell? ⟨w4.heap.size, 3, none⟩ = some (.bool eu) := by simp
        have HBX := Lib.hid hbx
        have HB4 := Lib.hid hb4
        have hFn : (F : Int) < n := by omega
        have hFc : (F : Int) ≤ c := by omega
        clear hbx hbx2 hb4 p0 p1 p2 p3
        go_wp2_with fail
        generalize w4.alloc (.cells #[.int .i64 ex, .int .i64 es, .int .i64 em, .bool eu] 33) = w5 at *
        have HX5 := Lib.hid (HX.out.below (HB4.out.trans (HBX.out.mono hs4)))
        have HL5 := Lib.hid (rdw_take (HL.out.below (HB4.out.trans (HBX.out.mono hs4))).1 F)
        have HN5 := Lib.hid (show (l.all.take F).length = F by rw [List.length_take]; omega)
        have HB5 := Lib.hid (hB2.trans ((HBR.out.trans ((HB4.out.trans (HBX.out.mono hs4)).mono (by omega))).mono (by omega)))
        have hs5 : w.heap.size ≤ w5.heap.size := HB5.out.size
        refine wp_region_N (S := (fun w' => (w'.cell? ⟨w4.heap.size, 0, none⟩ = some (.int .i64 ex) ∧ w'.cell? ⟨w4.heap.size, 1, none⟩ = some (.int .i64 es) ∧ w'.cell? ⟨w4.heap.size, 2, none⟩ = some (.int .i64 em) ∧ w'.cell? ⟨w4.heap.size, 3, none⟩ = some (.bool eu)) ∧ (w'.cell? ⟨gv, ov + F * 4, none⟩ = some (.int .i64 ex) ∧ w'.cell? ⟨gv, ov + F * 4 + 1, none⟩ = some (.int .i64 es) ∧ w'.cell? ⟨gv, ov + F * 4 + 2, none⟩ = some (.int .i64 em) ∧ w'.cell? ⟨gv, ov + F * 4 + 3, none⟩ = some (.bool eu)))) (fun i => true) (by kernel_rfl) ?_ (fun hHeld => ?_)
        · (try dsimp only)
          first
            | (refine ⟨⟨?_, ?_, ?_, ?_⟩, ?_, ?_, ?_, ?_⟩ <;> with_reducible assumption)
            | (refine ⟨⟨cell_keep ?_ y0, cell_keep ?_ y1, cell_keep ?_ y2, cell_keep ?_ y3⟩, cell_keep ?_ v0, cell_keep ?_ v1, cell_keep ?_ v2, cell_keep ?_ v3⟩ <;> (go_grown; done))
        refine wpAnyN_take [5, 6, 7, 8, 9, 10, 11, 12, 13, 14, 15, 16, 17, 18, 19] (i := 0) (v := ?_) rfl (by kernel_rfl) (by kernel_rfl) (by kernel_rfl) (by kernel_rfl) (by kernel_rfl) (fun _ _ _ h => h) (Or.inl ⟨by first | kernel_rfl | rfl, ?_⟩) (by assumption) ?_
        rotate_left
        focus
          intro w hSw
          (try dsimp only at hSw)
          go_simp
          try with_reducible rfl
        (try change wpAnyN _ _ _ _ _ _ _ _ (Act.put _ (some 146) _) _)
        try (unfold Act.put; dsimp only)
        refine wpAnyN_take [3, 4, 5, 6, 7, 8, 9, 10, 11, 12, 13, 14, 15, 16, 17, 18, 19] (i := 1) (v := ?_) rfl (by kernel_rfl) (by kernel_rfl) (by kernel_rfl) (by kernel_rfl) (by kernel_rfl) (fun _ _ _ h => h) (Or.inl ⟨by first | kernel_rfl | rfl, ?_⟩) (by assumption) ?_
        rotate_left
        focus
          intro w hSw
          (try dsimp only at hSw)
          go_simp
          try with_reducible rfl
        (try change wpAnyN _ _ _ _ _ _ _ _ (Act.put _ (some 147) _) _)
        try (unfold Act.put; dsimp only)
        refine wpAnyN_take [3, 4, 5, 6, 7, 8, 9, 10, 11, 12, 13, 14, 15, 16, 17, 18, 19] (i := 2) (v := ?_) rfl (by kernel_rfl) (by kernel_rfl) (by kernel_rfl) (by kernel_rfl) (by kernel_rfl) (fun _ _ _ h => h) (Or.inl ⟨by first | kernel_rfl | rfl, ?_⟩) (by assumption) ?_
        rotate_left
        focus
          intro w hSw
          (try dsimp only at hSw)
          go_simp
          try with_reducible rfl
        (try change wpAnyN _ _ _ _ _ _ _ _ (Act.put _ (some 148) _) _)
        try (unfold Act.put; dsimp only)
        refine wpAnyN_take [4, 5, 6, 7, 8, 9, 10, 11, 12, 13, 14, 15, 16, 17, 18, 19] (i := 3) (v := ?_) rfl (by kernel_rfl) (by kernel_rfl) (by kernel_rfl) (by kernel_rfl) (by kernel_rfl) (fun _ _ _ h => h) (Or.inl ⟨by first | kernel_rfl | rfl, ?_⟩) (by assumption) ?_
        rotate_left
        focus
          intro w hSw
          (try dsimp only at hSw)
          go_simp
          try with_reducible rfl
        (try change wpAnyN _ _ _ _ _ _ _ _ (Act.put _ (some 149) _) _)
        try (unfold Act.put; dsimp only)
        refine wpAnyN_take [5, 6, 7, 8, 9, 10, 11, 12, 13, 14, 15, 16, 17, 18, 19] (i := 4) (v := ?_) rfl (by kernel_rfl) (by kernel_rfl) (by kernel_rfl) (by kernel_rfl) (by kernel_rfl) (fun _ _ _ h => h) (Or.inl ⟨by first | kernel_rfl | rfl, ?_⟩) (by assumption) ?_
        rotate_left
        focus
          intro w hSw
          (try dsimp only at hSw)
          go_simp
          try with_reducible rfl
        (try change wpAnyN _ _ _ _ _ _ _ _ (Act.put _ (some 150) _) _)
        try (unfold Act.put; dsimp only)
        refine wpAnyN_take [6, 7, 8, 9, 10, 11, 12, 13, 14, 15, 16, 17, 18, 19] (i := 5) (v := ?_) rfl (by kernel_rfl) (by kernel_rfl) (by kernel_rfl) (by kernel_rfl) (by kernel_rfl) (fun _ _ _ h => h) (Or.inl ⟨by first | kernel_rfl | rfl, ?_⟩) (by assumption) ?_
        rotate_left
        focus
          intro w hSw
          (try dsimp only at hSw)
          go_simp
          try with_reducible rfl
        (try change wpAnyN _ _ _ _ _ _ _ _ (Act.put _ (some 151) _) _)
        try (unfold Act.put; dsimp only)
        refine wpAnyN_take [7, 8, 9, 10, 11, 12, 13, 14, 15, 16, 17, 18, 19] (i := 6) (v := ?_) rfl (by kernel_rfl) (by kernel_rfl) (by kernel_rfl) (by kernel_rfl) (by kernel_rfl) (fun _ _ _ h => h) (Or.inl ⟨by first | kernel_rfl | rfl, ?_⟩) (by assumption) ?_
        rotate_left
        focus
          intro w hSw
          (try dsimp only at hSw)
          go_simp
          try with_reducible rfl
        (try change wpAnyN _ _ _ _ _ _ _ _ (Act.put _ (some 152) _) _)
        try (unfold Act.put; dsimp only)
        refine wpAnyN_take [8, 9, 10, 11, 12, 13, 14, 15, 16, 17, 18, 19] (i := 7) (v := ?_) rfl (by kernel_rfl) (by kernel_rfl) (by kernel_rfl) (by kernel_rfl) (by kernel_rfl) (fun _ _ _ h => h) (Or.inl ⟨by first | kernel_rfl | rfl, ?_⟩) (by assumption) ?_
        rotate_left
        focus
          intro w hSw
          (try dsimp only at hSw)
          go_simp
          try with_reducible rfl
        (try change wpAnyN _ _ _ _ _ _ _ _ (Act.put _ (some 153) _) _)
        try (unfold Act.put; dsimp only)
        refine wpAnyN_take [9, 10, 11, 12, 13, 14, 15, 16, 17, 18, 19] (i := 8) (v := ?_) rfl (by kernel_rfl) (by kernel_rfl) (by kernel_rfl) (by kernel_rfl) (by kernel_rfl) (fun _ _ _ h => h) (Or.inl ⟨by first | kernel_rfl | rfl, ?_⟩) (by assumption) ?_
        rotate_left
        focus
          intro w hSw
          (try dsimp only at hSw)
          go_simp
          try with_reducible rfl
        (try change wpAnyN _ _ _ _ _ _ _ _ (Act.put _ (some 154) _) _)
        try (unfold Act.put; dsimp only)
        refine wpAnyN_take [10, 11, 12, 13, 14, 15, 16, 17, 18, 19] (i := 9) (v := ?_) rfl (by kernel_rfl) (by kernel_rfl) (by kernel_rfl) (by kernel_rfl) (by kernel_rfl) (fun _ _ _ h => h) (Or.inl ⟨by first | kernel_rfl | rfl, ?_⟩) (by assumption) ?_
        rotate_left
        focus
          intro w hSw
          (try dsimp only at hSw)
          go_simp
          try with_reducible rfl
        (try change wpAnyN _ _ _ _ _ _ _ _ (Act.put _ (some 155) _) _)
        try (unfold Act.put; dsimp only)
        refine wpAnyN_take [11, 12, 13, 14, 15, 16, 17, 18, 19] (i := 10) (v := ?_) rfl (by kernel_rfl) (by kernel_rfl) (by kernel_rfl) (by kernel_rfl) (by kernel_rfl) (fun _ _ _ h => h) (Or.inl ⟨by first | kernel_rfl | rfl, ?_⟩) (by assumption) ?_
        rotate_left
        focus
          intro w hSw
          (try dsimp only at hSw)
          go_simp
          try with_reducible rfl
        (try change wpAnyN _ _ _ _ _ _ _ _ (Act.put _ (some 156) _) _)
        try (unfold Act.put; dsimp only)
        refine wpAnyN_take [13, 17, 18, 19] (i := 11) (v := ?_) rfl (by kernel_rfl) (by kernel_rfl) (by kernel_rfl) (by kernel_rfl) (by kernel_rfl) (fun _ _ _ h => h) (Or.inl ⟨by first | kernel_rfl | rfl, ?_⟩) (by assumption) ?_
        rotate_left
        focus
          intro w hSw
          (try dsimp only at hSw)
          go_simp
          try with_reducible rfl
        (try change wpAnyN _ _ _ _ _ _ _ _ (Act.put _ (some 157) _) _)
        try (unfold Act.put; dsimp only)
        refine wpAnyN_take [13, 17, 18, 19] (i := 12) (v := ?_) rfl (by kernel_rfl) (by kernel_rfl) (by kernel_rfl) (by kernel_rfl) (by kernel_rfl) (fun _ _ _ h => h) (Or.inl ⟨by first | kernel_rfl | rfl, ?_⟩) (by assumption) ?_
        rotate_left
        focus
          intro w hSw
          (try dsimp only at hSw)
          go_simp
          try with_reducible rfl
        (try change wpAnyN _ _ _ _ _ _ _ _ (Act.put _ (some 158) _) _)
        try (unfold Act.put; dsimp only)
        refine wpAnyN_take [16, 17, 18, 19] (i := 14) (v := ?_) rfl (by kernel_rfl) (by kernel_rfl) (by kernel_rfl) (by kernel_rfl) (by kernel_rfl) (fun _ _ _ h => h) (Or.inl ⟨by first | kernel_rfl | rfl, ?_⟩) (by assumption) ?_
        rotate_left
        focus
          intro w hSw
          (try dsimp only at hSw)
          go_simp
          try with_reducible rfl
        (try change wpAnyN _ _ _ _ _ _ _ _ (Act.put _ (some 160) _) _)
        try (unfold Act.put; dsimp only)
        refine wpAnyN_take [16, 17, 18, 19] (i := 15) (v := ?_) rfl (by kernel_rfl) (by kernel_rfl) (by kernel_rfl) (by kernel_rfl) (by kernel_rfl) (fun _ _ _ h => h) (Or.inl ⟨by first | kernel_rfl | rfl, ?_⟩) (by assumption) ?_
        rotate_left
        focus
          intro w hSw
          (try dsimp only at hSw)
          go_simp
          try with_reducible rfl
        (try change wpAnyN _ _ _ _ _ _ _ _ (Act.put _ (some 161) _) _)
        try (unfold Act.put; dsimp only)
        refine wpAnyN_take [17, 18, 19] (i := 16) (v := ?_) rfl (by kernel_rfl) (by kernel_rfl) (by kernel_rfl) (by kernel_rfl) (by kernel_rfl) (fun _ _ _ h => h) (Or.inl ⟨by first | kernel_rfl | rfl, ?_⟩) (by assumption) ?_
        rotate_left
        focus
          intro w hSw
          (try dsimp only at hSw)
          go_simp
          try with_reducible rfl
        (try change wpAnyN _ _ _ _ _ _ _ _ (Act.put _ (some 162) _) _)
        try (unfold Act.put; dsimp only)
        refine wpAnyN_ready (rs := [13]) (by kernel_rfl) (by simp) ?_
        refine AllReadyN.cons rfl (fun K hK => ?_) ?_
        · go_simp
          go_at_call 17
          refine (HAH.out _ (HX5.out.below (by go_grown))).mono ?_
          rintro e w8 ⟨⟨A8, n8, c8, rfl, hn8, _, r8⟩, hb8⟩
          obtain rfl : F = n8 := hn8.symm
          have HR8 := Lib.hid r8
          have HB8 := Lib.hid (HB5.out.trans (Below.mono (Below.trans (show Below w5.heap.size w5 _ by go_grown) (hb8.mono (by first | omega | (simp; done) | (simp; omega)))) hs5))
          have HL8 := Lib.hid ((HL5.out.below (show Below w5.heap.size w5 _ by go_grown)).below hb8)
          have y0 := cell_keep (Below.trans (show Below w5.heap.size w5 _ by go_grown) (hb8.mono (by first | omega | (simp; done) | (simp; omega)))) y0
          have y1 := cell_keep (Below.trans (show Below w5.heap.size w5 _ by go_grown) (hb8.mono (by first | omega | (simp; done) | (simp; omega)))) y1
          have y2 := cell_keep (Below.trans (show Below w5.heap.size w5 _ by go_grown) (hb8.mono (by first | omega | (simp; done) | (simp; omega)))) y2
          have y3 := cell_keep (Below.trans (show Below w5.heap.size w5 _ by go_grown) (hb8.mono (by first | omega | (simp; done) | (simp; omega)))) y3
          have v0 := cell_keep (Below.trans (show Below w5.heap.size w5 _ by go_grown) (hb8.mono (by first | omega | (simp; done) | (simp; omega)))) v0
          have v1 := cell_keep (Below.trans (show Below w5.heap.size w5 _ by go_grown) (hb8.mono (by first | omega | (simp; done) | (simp; omega)))) v1
          have v2 := cell_keep (Below.trans (show Below w5.heap.size w5 _ by go_grown) (hb8.mono (by first | omega | (simp; done) | (simp; omega)))) v2
          have v3 := cell_keep (Below.trans (show Below w5.heap.size w5 _ by go_grown) (hb8.mono (by first | omega | (simp; done) | (simp; omega)))) v3
          clear r8 hb8
          dsimp only
          refine hK.out _ _ ?_ (fun hHeld => ?_)
          · (try dsimp only)
            first
              | (refine ⟨⟨?_, ?_, ?_, ?_⟩, ?_, ?_, ?_, ?_⟩ <;> with_reducible assumption)
              | (refine ⟨⟨cell_keep ?_ y0, cell_keep ?_ y1, cell_keep ?_ y2, cell_keep ?_ y3⟩, cell_keep ?_ v0, cell_keep ?_ v1, cell_keep ?_ v2, cell_keep ?_ v3⟩ <;> (go_grown; done))
          clear hK K
          (try change wpAnyN _ _ _ _ _ _ _ _ (Act.put _ (some 159) _) _)
          try (unfold Act.put; dsimp only)
          refine wpAnyN_ready (rs := [17]) (by kernel_rfl) (by simp) ?_
          refine AllReadyN.cons rfl (fun K hK => ?_) ?_
          · go_simp
            go_at_call 13
            refine (same_true A8 _ F c8 c (l.all.take F) _ (HR8.out.below (by go_grown)) (HL8.out.below (by go_grown)) HN5.out (by omega)).mono ?_
            rintro e w9 ⟨rfl, hb9⟩
            have HB9 := Lib.hid (HB8.out.trans (Below.mono (Below.trans (show Below w8.heap.size w8 _ by go_grown) (hb9.mono (by first | omega | (simp; done) | (simp; omega)))) HB8.out.size))
            have y0 := cell_keep (Below.trans (show Below w8.heap.size w8 _ by go_grown) (hb9.mono (by first | omega | (simp; done) | (simp; omega)))) y0
            have y1 := cell_keep (Below.trans (show Below w8.heap.size w8 _ by go_grown) (hb9.mono (by first | omega | (simp; done) | (simp; omega)))) y1
            have y2 := cell_keep (Below.trans (show Below w8.heap.size w8 _ by go_grown) (hb9.mono (by first | omega | (simp; done) | (simp; omega)))) y2
            have y3 := cell_keep (Below.trans (show Below w8.heap.size w8 _ by go_grown) (hb9.mono (by first | omega | (simp; done) | (simp; omega)))) y3
            have v0 := cell_keep (Below.trans (show Below w8.heap.size w8 _ by go_grown) (hb9.mono (by first | omega | (simp; done) | (simp; omega)))) v0
            have v1 := cell_keep (Below.trans (show Below w8.heap.size w8 _ by go_grown) (hb9.mono (by first | omega | (simp; done) | (simp; omega)))) v1
            have v2 := cell_keep (Below.trans (show Below w8.heap.size w8 _ by go_grown) (hb9.mono (by first | omega | (simp; done) | (simp; omega)))) v2
            have v3 := cell_keep (Below.trans (show Below w8.heap.size w8 _ by go_grown) (hb9.mono (by first | omega | (simp; done) | (simp; omega)))) v3
            clear hb9
            dsimp only
            refine hK.out _ _ ?_ (fun hHeld => ?_)
            · (try dsimp only)
              first
                | (refine ⟨⟨?_, ?_, ?_, ?_⟩, ?_, ?_, ?_, ?_⟩ <;> with_reducible assumption)
                | (refine ⟨⟨cell_keep ?_ y0, cell_keep ?_ y1, cell_keep ?_ y2, cell_keep ?_ y3⟩, cell_keep ?_ v0, cell_keep ?_ v1, cell_keep ?_ v2, cell_keep ?_ v3⟩ <;> (go_grown; done))
            clear hK K
            (try change wpAnyN _ _ _ _ _ _ _ _ (Act.put _ (some 163) _) _)
            try (unfold Act.put; dsimp only)
            refine wpAnyN_take [19] (i := 18) (v := ?_) rfl (by kernel_rfl) (by kernel_rfl) (by kernel_rfl) (by kernel_rfl) (by kernel_rfl) (fun _ _ _ h => h) (Or.inl ⟨by first | kernel_rfl | rfl, ?_⟩) (by assumption) ?_
            rotate_left
            focus
              intro w hSw
              (try dsimp only at hSw)
              go_simp
              try with_reducible rfl
            (try change wpAnyN _ _ _ _ _ _ _ _ (Act.put _ (some 164) _) _)
            try (unfold Act.put; dsimp only)
            refine wpAnyN_take [] (i := 19) (v := ?_) rfl (by kernel_rfl) (by kernel_rfl) (by kernel_rfl) (by kernel_rfl) (by kernel_rfl) (fun _ _ _ h => h) (Or.inl ⟨by first | kernel_rfl | rfl, ?_⟩) (by assumption) ?_
            rotate_left
            focus
              intro w hSw
              (try dsimp only at hSw)
              go_simp
              try with_reducible rfl
            (try change wpAnyN _ _ _ _ _ _ _ _ (Act.put _ (some 6) _) _)
            try (unfold Act.put; dsimp only)
            refine wpAnyN_done (by kernel_rfl) ?_ _
            go_wp2
            go_ret
            exact ⟨rfl, HB9.out.trans (Below.mono (show Below w9.heap.size w9 _ by go_grown) HB9.out.size)⟩
          exact AllReadyN.nil
        exact AllReadyN.nil
      · have hF : findI l.all tx = -1 := by unfold findI; rw [if_neg hf]
        have hh : l.has tx = false := decide_eq_false hf
        have hE : errV (leaveE l tx) = .iface 55 (.int .i64 10) := by unfold leaveE; rw [if_neg (by rw [hh]; decide)]; rfl
        have hW : leaveW l tx = Wt.none := by unfold leaveW; rw [if_neg (by rw [hh]; decide)]
        have hA : aheadN l tx = 0 := by unfold aheadN; rw [if_neg (by rw [← Lot.all_length]; exact hf)]
        have hfind := find_any w1.heap.size w1.heap.size lim l (SA A) tx wr hXr (by omega)
        have hahead := fun W (hXW : LineX W w1.heap.size w1.heap.size lim l (SA A)) => ahead_any w1.heap.size w1.heap.size lim l (SA A) tx W hXW (by omega)
        rw [hE, hW, show Wt.none.val = .agg #[.int .i64 0, .int .i64 0, .int .i64 0, .bool false] from rfl] at hfind
        rw [hA] at hahead
        rw [hF]
        have HFI := Lib.hid hfind
        have HAH := Lib.hid hahead
        have HX := Lib.hid hXr
        have HL := Lib.hid hL
        have HBR := Lib.hid hbr
        clear hfind hahead hXr hL hbr hF hh hE hW hA hf
        go_wp2_with fail
        refine (HFI.out).mono ?_
        rintro e w4 ⟨rfl, hb4⟩
        have hs4 := hb4.size
        have hbx : Below w4.heap.size w4 (w4.alloc (.cells #[.int .i64 0, .int .i64 0, .int .i64 0, .bool false] 33)) := (Below.refl _ _).alloc (Nat.le_refl _) _
        have HBX := Lib.hid (hb4.trans (hbx.mono hs4))
        clear hbx hb4
        go_wp2_with fail
        generalize w4.alloc (.cells #[.int .i64 0, .int .i64 0, .int .i64 0, .bool false] 33) = w5 at *
        refine (code_errno 10 _ (by omega) (by omega)).mono ?_
        rintro e w6 ⟨rfl, rfl⟩
        go_wp2_with fail
        refine (HAH.out w5 (HX.out.below HBX.out)).mono ?_
        rintro e w6 ⟨⟨A6, n6, c6, rfl, h6, _, _⟩, hb6⟩
        have hs6 := hb6.size
        have HB6 := Lib.hid hb6
        subst h6
        clear hb6
        go_wp2_with fail
        go_ret
        exact ⟨rfl, ((hB2.trans (HBR.out.mono (by omega))).trans (HBX.out.mono (by omega))).trans (HB6.out.mono (by have := HBX.out.size; omega))⟩
end Go.Proofs.Ytpbgdldaojpjkaa

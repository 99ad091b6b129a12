/-
  model.clash: do two transactions clash? No conditions.
-/
import Derived.Test.YtggkohkngockoaaDoorPFind
import Derived.LoopTactic
namespace Go.Proofs.YtggkohkngockoaaDoor
open Go.ChangeShapes Go.WideShapes Go.ChangeAt Go.RowKit Go.Maps
set_option linter.unusedVariables false

def pairB (fa fb : Int) (x y : Got) : Bool := decide (x.table = y.table ∧ x.row = y.row) && !togB x.mode y.mode && decide (x.place < fb) && decide (y.place < fa)
def rowB (fa fb : Int) (l2 : List Got) (x : Got) : Bool := l2.any fun y => pairB fa fb x y
theorem any_at {l : List Got} {p : Got → Bool} {k : Nat} (h : k < l.length) (hp : p (l.getD k Got.none) = true) : l.any p = true := by
  rw [List.any_eq_true]
  refine ⟨l.getD k Got.none, ?_, hp⟩
  rw [List.getD_eq_getElem?_getD, List.getElem?_eq_getElem h]
  exact List.getElem_mem h
theorem any_no {l : List Got} {p : Got → Bool} (h : ∀ q, q < l.length → p (l.getD q Got.none) = false) : l.any p = false := by
  rw [List.any_eq_false]
  intro x hx
  obtain ⟨q, hq, rfl⟩ := List.mem_iff_getElem.1 hx
  have := h q hq
  rw [List.getD_eq_getElem?_getD, List.getElem?_eq_getElem hq] at this
  simpa using this
theorem upto_next {p : Nat → Bool} {k : Nat} (h : ∀ q, q < k → p q = false) (hk : p k = false) : ∀ q, q < k + 1 → p q = false := fun q hq => by
  rcases Nat.lt_or_ge q k with h1 | h1
  · exact h q h1
  · rw [show q = k by omega]; exact hk


set_option maxHeartbeats 4000000 in
theorem clash_any (a b n1 c1 n2 c2 : Nat) (A B : Option Addr) (l1 l2 : List Got) (fa fb : Int) (w : World) (hl1 : l1.length = n1) (hl2 : l2.length = n2) (ha9 : w.cell? ⟨a, 9, none⟩ = some (.slice A n1 c1)) (hb9 : w.cell? ⟨b, 9, none⟩ = some (.slice B n2 c2)) (ha2 : w.cell? ⟨a, 2, none⟩ = some (.int .i64 fa)) (hb2 : w.cell? ⟨b, 2, none⟩ = some (.int .i64 fb)) (h1 : RdG w A l1) (h2 : RdG w B l2) (hn1 : n1 ≤ 1000) (hn2 : n2 ≤ 1000) :
    Calls Tryd.prog 55 #[.pointer (some ⟨a, 0, none⟩), .pointer (some ⟨b, 0, none⟩)] w fun e w' => e = .returned (.bool (l1.any (rowB fa fb l2))) ∧ Below w.heap.size w w' := by
  have L1 := Lib.hid hl1
  have L2 := Lib.hid hl2
  have H1 := Lib.hid h1
  have H2 := Lib.hid h2
  have HA2 := Lib.hid ha2
  have HB2 := Lib.hid hb2
  have HB9 := Lib.hid hb9
  clear hl1 hl2 h1 h2 ha2 hb2 hb9
  go_enter Tryd.func55, Tryd.ntmps55
  go_wp2
  go_loopw [14] (fun i wr => ∃ k : Nat, k ≤ n1 ∧ i = .int .i64 k ∧ Below w.heap.size w wr ∧ ∀ q, q < k → rowB fa fb l2 (l1.getD q Got.none) = false) (fun i _ => n1 - (intOf i).toNat)
  case atStart => exact ⟨0, by omega, rfl, Below.refl _ _, fun q hq => by omega⟩
  case round =>
    obtain ⟨k, hk, rfl, hbr, hno⟩ := hrel
    obtain ⟨wo, rfl⟩ : ∃ W, W = wr := ⟨_, rfl⟩
    have HNO := Lib.hid hno
    clear hno
    by_cases hlt : k < n1
    · have hlt' : (k : Int) < n1 := by omega
      obtain ⟨gx, ox, hAx, hcx⟩ := H1.out.below hbr
      obtain ⟨rfl, hgx⟩ := hAx (by rw [L1.out]; omega)
      obtain ⟨p0, p1, p2, p3⟩ := hcx k (by rw [L1.out]; exact hlt)
      have HK := Lib.hid (fun (hp : rowB fa fb l2 (l1.getD k Got.none) = true) => any_at (p := rowB fa fb l2) (by rw [L1.out]; exact hlt) hp)
      have HK2 := Lib.hid (fun (hp : rowB fa fb l2 (l1.getD k Got.none) = false) => upto_next (p := fun q => rowB fa fb l2 (l1.getD q Got.none)) HNO.out hp)
      clear hAx hcx
      obtain ⟨X, hX⟩ : ∃ X, l1.getD k Got.none = X := ⟨_, rfl⟩
      rw [hX] at p0 p1 p2 p3 HK HK2
      clear hX HNO
      obtain ⟨xt, xr, xm, xp⟩ := X
      simp only at p0 p1 p2 p3
      have b9 := (hbr.cell (p := ⟨b, 9, none⟩) (lt_of_cell HB9.out)).trans HB9.out
      have lb : b < wo.heap.size := lt_of_cell b9
      have nb : ¬ b = wo.heap.size := by omega
      have nb' : ¬ wo.heap.size = b := by omega
      have hbX : Below wo.heap.size wo (wo.alloc (.cells #[.int .i64 xt, .int .i64 xr, .int .i64 xm, .int .i64 xp] 122)) := (Below.refl _ _).alloc (Nat.le_refl _) _
      have x0 : (wo.alloc (.cells #[.int .i64 xt, .int .i64 xr, .int .i64 xm, .int .i64 xp] 122)).cell? ⟨wo.heap.size, 0, none⟩ = some (.int .i64 xt) := by simp
      have x1 : (wo.alloc (.cells #[.int .i64 xt, .int .i64 xr, .int .i64 xm, .int .i64 xp] 122)).cell? ⟨wo.heap.size, 1, none⟩ = some (.int .i64 xr) := by simp
      have x2 : (wo.alloc (.cells #[.int .i64 xt, .int .i64 xr, .int .i64 xm, .int .i64 xp] 122)).cell? ⟨wo.heap.size, 2, none⟩ = some (.int .i64 xm) := by simp
      have x3 : (wo.alloc (.cells #[.int .i64 xt, .int .i64 xr, .int .i64 xm, .int .i64 xp] 122)).cell? ⟨wo.heap.size, 3, none⟩ = some (.int .i64 xp) := by simp
      have X0 := Lib.hid x0
      have X1 := Lib.hid x1
      have X2 := Lib.hid x2
      have X3 := Lib.hid x3
      clear x0 x1 x2 x3
      have HBX := Lib.hid (hbr.trans (hbX.mono hbr.size))
      go_wp2
      generalize hw1 : wo.alloc _ = w1 at *
      have hs1 : wo.heap.size < w1.heap.size := by rw [← hw1]; simp
      clear hw1
      go_loopw [23] (fun i wx => ∃ j : Nat, j ≤ n2 ∧ i = .int .i64 j ∧ Below w1.heap.size w1 wx ∧ ∀ q, q < j → pairB fa fb ⟨xt, xr, xm, xp⟩ (l2.getD q Got.none) = false) (fun i _ => n2 - (intOf i).toNat)
      case atStart => exact ⟨0, by omega, rfl, Below.refl _ _, fun q hq => by omega⟩
      case round =>
        obtain ⟨j, hj, rfl, hbx, hnj⟩ := hrel
        have HNJ := Lib.hid hnj
        clear hnj
        by_cases hlj : j < n2
        · have hlj' : (j : Int) < n2 := by omega
          have hbX2 := HBX.out.trans (hbx.mono HBX.out.size)
          obtain ⟨gy, oy, hAy, hcy⟩ := H2.out.below hbX2
          obtain ⟨rfl, hgy⟩ := hAy (by rw [L2.out]; omega)
          obtain ⟨q0, q1, q2, q3⟩ := hcy j (by rw [L2.out]; exact hlj)
          have HJ := Lib.hid (fun (hp : pairB fa fb ⟨xt, xr, xm, xp⟩ (l2.getD j Got.none) = true) => any_at (p := pairB fa fb ⟨xt, xr, xm, xp⟩) (by rw [L2.out]; exact hlj) hp)
          have HJ1 := Lib.hid (fun (hp : pairB fa fb ⟨xt, xr, xm, xp⟩ (l2.getD j Got.none) = false) => upto_next (p := fun q => pairB fa fb ⟨xt, xr, xm, xp⟩ (l2.getD q Got.none)) HNJ.out hp)
          clear hAy hcy
          obtain ⟨Y, hY⟩ : ∃ Y, l2.getD j Got.none = Y := ⟨_, rfl⟩
          rw [hY] at q0 q1 q2 q3 HJ HJ1
          clear hY HNJ
          obtain ⟨yt, yr, ym, yp⟩ := Y
          simp only at q0 q1 q2 q3
          have z0 := (hbx.cell (p := ⟨wo.heap.size, 0, none⟩) hs1).trans X0.out
          have z1 := (hbx.cell (p := ⟨wo.heap.size, 1, none⟩) hs1).trans X1.out
          have z2 := (hbx.cell (p := ⟨wo.heap.size, 2, none⟩) hs1).trans X2.out
          have z3 := (hbx.cell (p := ⟨wo.heap.size, 3, none⟩) hs1).trans X3.out
          have a2 := (hbX2.cell (p := ⟨a, 2, none⟩) (lt_of_cell HA2.out)).trans HA2.out
          have b2 := (hbX2.cell (p := ⟨b, 2, none⟩) (lt_of_cell HB2.out)).trans HB2.out
          have la : a < wr.heap.size := lt_of_cell a2
          have lb : b < wr.heap.size := lt_of_cell b2
          have lx : wo.heap.size < wr.heap.size := lt_of_cell z0
          have ne1 : ¬ wo.heap.size = wr.heap.size := by omega
          have hbB : Below w1.heap.size w1 (wr.alloc (.cells #[.int .i64 yt, .int .i64 yr, .int .i64 ym, .int .i64 yp] 122)) := hbx.alloc hbx.size _
          have HBB := Lib.hid hbB
          by_cases ht : xt = yt
          · by_cases hr : xr = yr
            · subst ht hr
              have e1 : (xt == xt) = true := by simp
              have e2 : (xr == xr) = true := by simp
              cases hT : togB xm ym with
              | true =>
                have HJ2 := Lib.hid (HJ1.out (by simp [pairB, hT]))
                go_wp2_with fail
                go_quiet ((go_at_call 58; exact Calls.quiet_of_same ((tog_any _ _ _).mono (fun _ _ h => ⟨h.1, h.2.symm⟩))))
                go_wp2
                first
                | exact ⟨⟨j + 1, by omega, by go_num, hbB.trans (by first | exact below_drewN (Below.refl _ _) _ | go_grown), HJ2.out⟩, by simp [intOf]; omega⟩
                | (go_roundw
                   case rel => exact ⟨j + 1, by omega, by go_num, hbB.trans (by first | exact below_drewN (Below.refl _ _) _ | go_grown), HJ2.out⟩
                   case measure => simp [intOf]; omega)
              | false =>
                by_cases hp : xp < fb
                · by_cases hq : yp < fa
                  · have HR := Lib.hid (HK.out (HJ.out (by simp [pairB, hT, hp, hq])))
                    go_wp2_with fail
                    go_quiet ((go_at_call 58; exact Calls.quiet_of_same ((tog_any _ _ _).mono (fun _ _ h => ⟨h.1, h.2.symm⟩))))
                    go_wp2
                    go_ret
                    exact ⟨by rw [HR.out]; rfl, HBX.out.trans ((HBB.out.trans (by first | exact below_drewN (Below.refl _ _) _ | go_grown)).mono HBX.out.size)⟩
                  · have HJ2 := Lib.hid (HJ1.out (by simp [pairB, hq]))
                    go_wp2_with fail
                    go_quiet ((go_at_call 58; exact Calls.quiet_of_same ((tog_any _ _ _).mono (fun _ _ h => ⟨h.1, h.2.symm⟩))))
                    go_wp2
                    first
                    | exact ⟨⟨j + 1, by omega, by go_num, hbB.trans (by first | exact below_drewN (Below.refl _ _) _ | go_grown), HJ2.out⟩, by simp [intOf]; omega⟩
                    | (go_roundw
                       case rel => exact ⟨j + 1, by omega, by go_num, hbB.trans (by first | exact below_drewN (Below.refl _ _) _ | go_grown), HJ2.out⟩
                       case measure => simp [intOf]; omega)
                · have hp' : decide (xp < fb) = false := by simp; omega
                  have HJ2 := Lib.hid (HJ1.out (by simp [pairB, hp]))
                  go_wp2_with fail
                  go_quiet ((go_at_call 58; exact Calls.quiet_of_same ((tog_any _ _ _).mono (fun _ _ h => ⟨h.1, h.2.symm⟩))))
                  go_wp2
                  first
                  | exact ⟨⟨j + 1, by omega, by go_num, hbB.trans (by first | exact below_drewN (Below.refl _ _) _ | go_grown), HJ2.out⟩, by simp [intOf]; omega⟩
                  | (go_roundw
                     case rel => exact ⟨j + 1, by omega, by go_num, hbB.trans (by first | exact below_drewN (Below.refl _ _) _ | go_grown), HJ2.out⟩
                     case measure => simp [intOf]; omega)
            · have e2 : (xr == yr) = false := by simp [hr]
              have HJ2 := Lib.hid (HJ1.out (by simp [pairB, hr]))
              go_wp2_with fail
              go_quiet ((go_at_call 58; exact Calls.quiet_of_same ((tog_any _ _ _).mono (fun _ _ h => ⟨h.1, h.2.symm⟩))))
              go_wp2
              first
              | exact ⟨⟨j + 1, by omega, by go_num, hbB.trans (by first | exact below_drewN (Below.refl _ _) _ | go_grown), HJ2.out⟩, by simp [intOf]; omega⟩
              | (go_roundw
                 case rel => exact ⟨j + 1, by omega, by go_num, hbB.trans (by first | exact below_drewN (Below.refl _ _) _ | go_grown), HJ2.out⟩
                 case measure => simp [intOf]; omega)
          · have e1 : (xt == yt) = false := by simp [ht]
            have HJ2 := Lib.hid (HJ1.out (by simp [pairB, ht]))
            go_wp2_with fail
            go_quiet ((go_at_call 58; exact Calls.quiet_of_same ((tog_any _ _ _).mono (fun _ _ h => ⟨h.1, h.2.symm⟩))))
            go_wp2
            first
            | exact ⟨⟨j + 1, by omega, by go_num, hbB.trans (by first | exact below_drewN (Below.refl _ _) _ | go_grown), HJ2.out⟩, by simp [intOf]; omega⟩
            | (go_roundw
               case rel => exact ⟨j + 1, by omega, by go_num, hbB.trans (by first | exact below_drewN (Below.refl _ _) _ | go_grown), HJ2.out⟩
               case measure => simp [intOf]; omega)
        · have hj' : j = n2 := by omega
          subst hj'
          have HR := Lib.hid (HK2.out (by unfold rowB; exact any_no (fun q hq => HNJ.out q (by rw [L2.out] at hq; exact hq))))
          have hge : ¬ (j : Int) < j := by omega
          go_wp2
          go_roundw
          case rel => exact ⟨k + 1, by omega, by go_num, HBX.out.trans (hbx.mono HBX.out.size), HR.out⟩
          case measure => simp [intOf]; omega
    · have hk' : k = n1 := by omega
      subst hk'
      have HR := Lib.hid (any_no (l := l1) (p := rowB fa fb l2) (fun q hq => HNO.out q (by rw [L1.out] at hq; exact hq)))
      have hge : ¬ (k : Int) < k := by omega
      go_wp2
      go_ret
      exact ⟨by rw [HR.out]; rfl, hbr⟩
end Go.Proofs.YtggkohkngockoaaDoor

/-
  line.Ahead: those that wait ahead of a transaction's, of a line and of none. No other conditions.
-/
import Derived.Test.YtpbgdldaojpjkaaAct
namespace Go.Proofs.Ytpbgdldaojpjkaa
open Go.ChangeShapes Go.WideShapes Go.ChangeAt Go.RowKit
set_option linter.unusedVariables false

def aheadN (l : Lot) (t : Int) : Nat := if findW l.all t < l.n then findW l.all t else 0

set_option maxHeartbeats 1000000 in
theorem pred_any (b : Nat) (t x s m : Int) (u : Bool) (w : World) (hb : w.cell? ⟨b, 0, none⟩ = some (.int .i64 t)) :
    Calls Try.prog 26 #[.agg #[.int .i64 x, .int .i64 s, .int .i64 m, .bool u], .pointer (some ⟨b, 0, none⟩)] w fun e w' => e = .returned (.bool (x == t)) ∧ Below w.heap.size w w' := by
  have hl := lt_of_cell hb
  have hne : b ≠ w.heap.size := by omega
  go_enter Try.func26, Try.ntmps26
  go_wp2
  go_ret
  exact ⟨rfl, by go_grown⟩

set_option maxHeartbeats 4000000 in
theorem index_any (b : Nat) (A : Option Addr) (n c : Nat) (es : List Wt) (t : Int) (w : World) (h : RdW w A es) (hl : es.length = n) (hn : n ≤ 10000) (hb : w.cell? ⟨b, 0, none⟩ = some (.int .i64 t)) :
    Calls Try.prog 25 #[.slice A n c, .func (.func 26) #[] #[.pointer (some ⟨b, 0, none⟩)]] w fun e w' => e = .returned (.int .i64 (findI es t)) ∧ Below w.heap.size w w' := by
  have HL := Lib.hid hl
  have H := Lib.hid h
  have HB := Lib.hid hb
  clear hl h hb
  go_enter Try.func25, Try.ntmps25
  go_wp2
  go_loopw [8] (fun i wr => Below w.heap.size w wr ∧ ∃ j : Nat, j ≤ n ∧ i = .int .i64 j ∧ ∀ q, q < j → (es.getD q Wt.none).x ≠ t) (fun i _ => n - (intOf i).toNat)
  case atStart => exact ⟨Below.refl _ _, 0, by omega, rfl, fun q hq => by omega⟩
  case round =>
    obtain ⟨hbr, j, hj, rfl, hno⟩ := hrel
    by_cases hlt : j < n
    · have hlt' : (j : Int) < n := by omega
      have hj0 : (0 : Int) ≤ j := by omega
      obtain ⟨gx, ox, hAx, hcx⟩ := H.out.below hbr
      obtain ⟨rfl, hgx⟩ := hAx (by rw [HL.out]; omega)
      obtain ⟨p0, p1, p2, p3⟩ := hcx j (by rw [HL.out]; exact hlt)
      have hbox := (hbr.cell (p := ⟨b, 0, none⟩) (lt_of_cell HB.out)).trans HB.out
      clear hAx hcx
      by_cases hx : (es.getD j Wt.none).x = t
      · have HE := Lib.hid (show findI es t = j from by
          have := findW_eq es t j (by rw [HL.out]; exact hlt) hx hno
          unfold findI
          rw [this, if_pos (by rw [HL.out]; exact hlt)])
        generalize es.getD j Wt.none = E at *
        obtain ⟨ex, es', em, eu⟩ := E
        simp only at p0 p1 p2 p3 hx
        have hxb : (ex == t) = true := by simp [hx]
        go_wp2_with fail
        refine (pred_any b t _ es' em eu wr hbox).mono ?_
        rintro e w5 ⟨rfl, hb5⟩
        rw [show (t == t) = true from by simp]
        go_wp2
        go_ret
        exact ⟨by first | rfl | (rw [HE.out]; rfl), hbr.trans (hb5.mono hbr.size)⟩
      · have HN := Lib.hid (show ∀ q, q < j + 1 → (es.getD q Wt.none).x ≠ t from fun q hq => by
          rcases Nat.lt_or_ge q j with h | h
          · exact hno q h
          · rw [show q = j from by omega]; exact hx)
        generalize es.getD j Wt.none = E at *
        obtain ⟨ex, es', em, eu⟩ := E
        simp only at p0 p1 p2 p3 hx
        have hxb : (ex == t) = false := by simp [hx]
        go_wp2_with fail
        refine (pred_any b t ex es' em eu wr hbox).mono ?_
        rintro e w5 ⟨rfl, hb5⟩
        rw [hxb]
        go_wp2
        go_roundw
        case rel => exact ⟨hbr.trans (hb5.mono hbr.size), j + 1, by omega, by go_num, HN.out⟩
        case measure => simp [intOf]; omega
    · have hk' : j = n := by omega
      subst hk'
      have hge : ¬ (j : Int) < j := by omega
      have HE := Lib.hid (show findI es t = -1 from by
        have := findW_none es t (fun q hq => hno q (by rw [HL.out] at hq; exact hq))
        unfold findI
        rw [this, if_neg (by omega)])
      go_wp2
      go_ret
      exact ⟨by first | rfl | (rw [HE.out]; rfl), hbr⟩

set_option maxHeartbeats 1000000 in
theorem ahead_none (t : Int) (w : World) :
    Calls Try.prog 17 #[.pointer none, .int .i64 t] w fun e w' => e = .returned (.slice none 0 0) ∧ Below w.heap.size w w' := by
  go_enter Try.func17, Try.ntmps17
  go_wp2_with fail
  refine (all_none _).mono ?_
  rintro e w2 ⟨rfl, rfl⟩
  have hbA : Below w.heap.size w (w.alloc (.cells #[.int .i64 t] 3)) := (Below.refl _ _).alloc (Nat.le_refl _) _
  go_wp2_with fail
  refine (index_any w.heap.size none 0 0 [] t _ (rdw_nil _ _) rfl (by omega) (by simp)).mono ?_
  rintro e w5 ⟨rfl, hb5⟩
  have hB5 := hbA.trans (hb5.mono (by simp))
  rw [show findI [] t = -1 from rfl]
  go_wp2
  go_ret
  exact ⟨rfl, hB5⟩

set_option maxRecDepth 100000 in
set_option maxHeartbeats 4000000 in
theorem ahead_any (B g : Nat) (lim : Int) (l : Lot) (S : Nat → Prop) (t : Int) (w : World) (hX : LineX w B g lim l S) (hn : l.n ≤ 1000) :
    Calls Try.prog 17 #[.pointer (some ⟨g, 0, none⟩), .int .i64 t] w fun e w' => (∃ A n c, e = .returned (.slice A n c) ∧ n = aheadN l t ∧ n ≤ c ∧ RdW w' A (l.all.take n)) ∧ Below w.heap.size w w' := by
  have HX := Lib.hid hX
  have hbA : Below w.heap.size w (w.alloc (.cells #[.int .i64 t] 3)) := (Below.refl _ _).alloc (Nat.le_refl _) _
  clear hX
  go_enter Try.func17, Try.ntmps17
  go_wp2_with fail
  refine (all_x B g lim l S _ (HX.out.below hbA) hn).mono ?_
  rintro e w2 ⟨⟨v2, rfl, hown2⟩, hb2⟩
  have hB2 := hbA.trans (hb2.mono hbA.size)
  obtain ⟨hlen, A2, cap2, rfl, hcap2, r2⟩ := rdw_of_own hown2
  have hbox := (hb2.cell (p := ⟨w.heap.size, 0, none⟩) (by simp)).trans (by simp : _ = some (.int .i64 t))
  have hall : l.all.length = l.n := by simp [Lot.all, Lot.n]
  have hfl := findW_le l.all t
  go_wp2_with fail
  refine (index_any w.heap.size A2 l.n cap2 l.all t w2 r2 hall (by omega) hbox).mono ?_
  rintro e w5 ⟨rfl, hb5⟩
  have hB5 := hB2.trans (hb5.mono hB2.size)
  have r5 := r2.below hb5
  by_cases hf : findW l.all t < l.n
  · have hfi : findI l.all t = (findW l.all t : Int) := by unfold findI; rw [if_pos (by rw [hall]; exact hf)]
    rw [hfi]
    have HR := Lib.hid (show aheadN l t = findW l.all t from if_pos hf)
    have RT := Lib.hid (rdw_take r5 (findW l.all t))
    generalize findW l.all t = j at *
    have hj0 : (0 : Int) ≤ j := by omega
    have hjc : (j : Int) ≤ cap2 := by omega
    clear hfi r5 r2 hown2
    go_wp2
    all_goals
      go_ret
      exact ⟨⟨A2, j, j, rfl, HR.out.symm, Nat.le_refl _, RT.out⟩, hB5⟩
  · have hfi : findI l.all t = -1 := by unfold findI; rw [if_neg (by rw [hall]; exact hf)]
    rw [hfi]
    have HR := Lib.hid (show aheadN l t = 0 from if_neg hf)
    clear hfi r5 r2 hown2 hf
    go_wp2
    all_goals
      go_ret
      exact ⟨⟨none, 0, 0, rfl, HR.out.symm, Nat.le_refl _, rdw_nil _ _⟩, hB5⟩
end Go.Proofs.Ytpbgdldaojpjkaa

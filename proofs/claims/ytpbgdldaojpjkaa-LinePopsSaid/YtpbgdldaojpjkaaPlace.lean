/-
  line.place: where a transaction's waits, in which lot, and where in it. No other conditions.
-/
import Derived.Test.YtpbgdldaojpjkaaWtRow
import Derived.WalkMore
namespace Go.Proofs.Ytpbgdldaojpjkaa
open Go.ChangeShapes Go.WideShapes Go.ChangeAt Go.RowKit
set_option linter.unusedVariables false

/-- the line lies at block g: its limit, its two lots -/
def LineAt (w : World) (g : Nat) (lim : Int) (v0 v1 : Value) : Prop :=
  g < w.heap.size ∧ w.cell? ⟨g, 0, none⟩ = some (.int .i64 lim) ∧ w.cell? ⟨g, 1, none⟩ = some v0 ∧ w.cell? ⟨g, 2, none⟩ = some v1
theorem LineAt.below {w w1 : World} {g : Nat} {lim : Int} {v0 v1 : Value} (h : LineAt w g lim v0 v1) (hb : Below w.heap.size w w1) : LineAt w1 g lim v0 v1 :=
  ⟨Nat.lt_of_lt_of_le h.1 hb.size, (hb.cell (p := ⟨g, _, none⟩) h.1).trans h.2.1, (hb.cell (p := ⟨g, _, none⟩) h.1).trans h.2.2.1, (hb.cell (p := ⟨g, _, none⟩) h.1).trans h.2.2.2⟩

theorem idx_0 (x y : Value) (w : World) : (Instr.index 56 (.agg #[x, y]) (.int .i64 0)).run Try.prog w = .ok x w := by kernel_rfl
theorem idx_1 (x y : Value) (w : World) : (Instr.index 56 (.agg #[x, y]) (.int .i64 1)).run Try.prog w = .ok y w := by kernel_rfl

set_option maxRecDepth 100000 in
set_option maxHeartbeats 4000000 in
theorem place_any (g : Nat) (lim : Int) (A0 A1 : Option Addr) (c0 c1 : Nat) (l : Lot) (t : Int) (w : World) (hl : LineAt w g lim (.slice A0 l.a.length c0) (.slice A1 l.b.length c1)) (h0 : RdW w A0 l.a) (h1 : RdW w A1 l.b)
    (m0 : l.a.length ≤ 100000) (m1 : l.b.length ≤ 100000) :
    Calls Try.prog 24 #[.pointer (some ⟨g, 0, none⟩), .int .i64 t] w fun e w' => e = .returned (.tuple #[.int .i64 (placeN l t), .int .i64 (placeI l t), .bool (placeB l t)]) ∧ Below w.heap.size w w' := by
  obtain ⟨hg, hc0, hc1, hc2⟩ := hl
  obtain ⟨a, b⟩ := l
  simp only at hc1 hc2 h0 h1 m0 m1
  obtain ⟨na, hna⟩ : ∃ n, a.length = n := ⟨_, rfl⟩
  obtain ⟨nb, hnb⟩ : ∃ n, b.length = n := ⟨_, rfl⟩
  have HA := Lib.hid hna
  have HB := Lib.hid hnb
  have P0 := Lib.hid h0
  have P1 := Lib.hid h1
  rw [hna] at hc1 m0
  rw [hnb] at hc2 m1
  clear h0 h1 hna hnb
  have ix0 := idx_0 (.slice A0 na c0) (.slice A1 nb c1)
  have ix1 := idx_1 (.slice A0 na c0) (.slice A1 nb c1)
  go_enter Try.func24, Try.ntmps24
  go_wp2
  go_step3
  go_wp2
  go_step3
  go_wp2
  go_loopw [7, 8, 9, 18] (fun n q f i wr => ∃ k : Nat, k ≤ 2 ∧ n = .int .i64 0 ∧ q = .int .i64 0 ∧ f = .bool false ∧ i = .int .i64 k ∧ (1 ≤ k → findW a t = a.length) ∧ (2 ≤ k → findW b t = b.length) ∧ Below w.heap.size w wr) (fun _ _ _ i _ => 2 - (intOf i).toNat)
  case atStart => exact ⟨0, by omega, rfl, rfl, rfl, rfl, fun h => by omega, fun h => by omega, Below.refl _ _⟩
  case round =>
    obtain ⟨k, hk, rfl, rfl, rfl, rfl, hfa, hfb, hbr⟩ := hrel
    obtain rfl | rfl | rfl : k = 0 ∨ k = 1 ∨ k = 2 := by omega
    · have hcell1 := (hbr.cell (p := ⟨g, 1, none⟩) hg).trans hc1
      have hcell2 := (hbr.cell (p := ⟨g, 2, none⟩) hg).trans hc2
      go_wp2
      go_loopw [7, 8, 9, 24] (fun n q f i wr => ∃ j : Nat, j ≤ na ∧ n = .int .i64 0 ∧ q = .int .i64 0 ∧ f = .bool false ∧ i = .int .i64 j ∧ (∀ q, q < j → (a.getD q Wt.none).x ≠ t) ∧ Below w.heap.size w wr) (fun _ _ _ i _ => na - (intOf i).toNat)
      case atStart => exact ⟨0, by omega, rfl, rfl, rfl, rfl, fun q hq => by omega, hbr⟩
      case round =>
        obtain ⟨j, hj, rfl, rfl, rfl, rfl, hno, hbr2⟩ := hrel
        by_cases hlt : j < na
        · have hlt' : (j : Int) < na := by omega
          have hj0 : (0 : Int) ≤ j := by omega
          have hsr := hbr2.size
          obtain ⟨gx, ox, hAx, hcx⟩ := (P0.out).below hbr2
          obtain ⟨rfl, hgx⟩ := hAx (by rw [HA.out]; omega)
          obtain ⟨p0, p1, p2, p3⟩ := hcx j (by rw [HA.out]; exact hlt)
          clear hAx hcx
          have HX := Lib.hid (show (a.getD j Wt.none) = a.getD j Wt.none from rfl)
          have HF := Lib.hid (show (a.getD j Wt.none).x = t → findW a t = j from fun hx => findW_eq a t j (by rw [HA.out]; exact hlt) hx hno)
          have HN := Lib.hid (show (a.getD j Wt.none).x ≠ t → ∀ q, q < j + 1 → (a.getD q Wt.none).x ≠ t from fun hx q hq => by
            rcases Nat.lt_or_ge q j with h | h
            · exact hno q h
            · rw [show q = j from by omega]; exact hx)
          generalize hE : a.getD j Wt.none = E at *
          obtain ⟨ex, es, em, eu⟩ := E
          simp only at p0 p1 p2 p3 HF HN
          by_cases hx : ex = t
          · have he := HF.out hx
            have e0 : placeN ⟨a, b⟩ t = 0 := by unfold placeN; rw [if_pos (by simp only; rw [he, HA.out]; exact hlt)]
            have e1 : placeI ⟨a, b⟩ t = j := by unfold placeI; rw [if_pos (by simp only; rw [he, HA.out]; exact hlt)]; exact he
            have e2 : placeB ⟨a, b⟩ t = true := by unfold placeB; exact decide_eq_true (.inl (by simp only; rw [he, HA.out]; exact hlt))
            have hxb : (ex == t) = true := by simp [hx]
            go_wp2
            go_returns
            refine ⟨?_, hbr2.alloc hsr _⟩
            rw [e0, e1, e2]; rfl
          · have hxb : (ex == t) = false := by simp [hx]
            go_wp2
            go_roundw
            case rel => exact ⟨j + 1, by omega, rfl, rfl, rfl, by go_num, HN.out hx, hbr2.alloc hsr _⟩
            case measure => simp [intOf]; omega
        · have hk' : j = na := by omega
          subst hk'
          have hge : ¬ (j : Int) < j := by omega
          go_wp2
          go_roundw
          case rel => exact ⟨1, by omega, rfl, rfl, rfl, rfl, fun _ => findW_none a t (fun q hq => hno q (by rw [HA.out] at hq; omega)), fun h => by omega, hbr2⟩
          case measure => simp [intOf]
    · have hcell1 := (hbr.cell (p := ⟨g, 1, none⟩) hg).trans hc1
      have hcell2 := (hbr.cell (p := ⟨g, 2, none⟩) hg).trans hc2
      go_wp2
      go_loopw [7, 8, 9, 24] (fun n q f i wr => ∃ j : Nat, j ≤ nb ∧ n = .int .i64 0 ∧ q = .int .i64 0 ∧ f = .bool false ∧ i = .int .i64 j ∧ (∀ q, q < j → (b.getD q Wt.none).x ≠ t) ∧ Below w.heap.size w wr) (fun _ _ _ i _ => nb - (intOf i).toNat)
      case atStart => exact ⟨0, by omega, rfl, rfl, rfl, rfl, fun q hq => by omega, hbr⟩
      case round =>
        obtain ⟨j, hj, rfl, rfl, rfl, rfl, hno, hbr2⟩ := hrel
        by_cases hlt : j < nb
        · have hlt' : (j : Int) < nb := by omega
          have hj0 : (0 : Int) ≤ j := by omega
          have hsr := hbr2.size
          obtain ⟨gx, ox, hAx, hcx⟩ := (P1.out).below hbr2
          obtain ⟨rfl, hgx⟩ := hAx (by rw [HB.out]; omega)
          obtain ⟨p0, p1, p2, p3⟩ := hcx j (by rw [HB.out]; exact hlt)
          clear hAx hcx
          have HX := Lib.hid (show (b.getD j Wt.none) = b.getD j Wt.none from rfl)
          have HF := Lib.hid (show (b.getD j Wt.none).x = t → findW b t = j from fun hx => findW_eq b t j (by rw [HB.out]; exact hlt) hx hno)
          have HN := Lib.hid (show (b.getD j Wt.none).x ≠ t → ∀ q, q < j + 1 → (b.getD q Wt.none).x ≠ t from fun hx q hq => by
            rcases Nat.lt_or_ge q j with h | h
            · exact hno q h
            · rw [show q = j from by omega]; exact hx)
          generalize hE : b.getD j Wt.none = E at *
          obtain ⟨ex, es, em, eu⟩ := E
          simp only at p0 p1 p2 p3 HF HN
          by_cases hx : ex = t
          · have he := HF.out hx
            have hfa' := hfa (by omega)
            have e0 : placeN ⟨a, b⟩ t = 1 := by unfold placeN; rw [if_neg (by simp only; omega), if_pos (by simp only; rw [he, HB.out]; exact hlt)]
            have e1 : placeI ⟨a, b⟩ t = j := by unfold placeI; rw [if_neg (by simp only; omega), if_pos (by simp only; rw [he, HB.out]; exact hlt)]; exact he
            have e2 : placeB ⟨a, b⟩ t = true := by unfold placeB; exact decide_eq_true (.inr (by simp only; rw [he, HB.out]; exact hlt))
            have hxb : (ex == t) = true := by simp [hx]
            go_wp2
            go_returns
            refine ⟨?_, hbr2.alloc hsr _⟩
            rw [e0, e1, e2]; rfl
          · have hxb : (ex == t) = false := by simp [hx]
            go_wp2
            go_roundw
            case rel => exact ⟨j + 1, by omega, rfl, rfl, rfl, by go_num, HN.out hx, hbr2.alloc hsr _⟩
            case measure => simp [intOf]; omega
        · have hk' : j = nb := by omega
          subst hk'
          have hge : ¬ (j : Int) < j := by omega
          go_wp2
          go_roundw
          case rel => exact ⟨2, by omega, rfl, rfl, rfl, rfl, fun _ => hfa (by omega), fun _ => findW_none b t (fun q hq => hno q (by rw [HB.out] at hq; omega)), hbr2⟩
          case measure => simp [intOf]
    · have hge2 : ¬ ((2 : Nat) : Int) < 2 := by omega
      have hfa' := hfa (by omega)
      have hfb' := hfb (by omega)
      have e0 : placeN ⟨a, b⟩ t = 0 := by unfold placeN; rw [if_neg (by simp only; omega), if_neg (by simp only; omega)]
      have e1 : placeI ⟨a, b⟩ t = 0 := by unfold placeI; rw [if_neg (by simp only; omega), if_neg (by simp only; omega)]
      have e2 : placeB ⟨a, b⟩ t = false := by unfold placeB; exact decide_eq_false (by simp only; omega)
      go_wp2
      go_returns
      refine ⟨?_, hbr⟩
      rw [e0, e1, e2]; rfl
end Go.Proofs.Ytpbgdldaojpjkaa

/-
  The document's Find and Same. No other conditions.
-/
import Derived.Test.YtpbgdldaojpjkaaLeave
namespace Go.Proofs.Ytpbgdldaojpjkaa
open Go.ChangeShapes Go.WideShapes Go.ChangeAt Go.RowKit
set_option linter.unusedVariables false

def findI (es : List Wt) (t : Int) : Int := if findW es t < es.length then findW es t else -1

set_option maxHeartbeats 2000000 in
theorem rfind_any (A : Option Addr) (n c : Nat) (es : List Wt) (t : Int) (w : World) (h : RdW w A es) (hl : es.length = n) (hn : n ≤ 10000) :
    Calls Try.prog 15 #[.slice A n c, .int .i64 t] w fun e w' => e = .returned (.int .i64 (findI es t)) ∧ w = w' := by
  have HL := Lib.hid hl
  have H := Lib.hid h
  clear hl h
  go_enter Try.func15, Try.ntmps15
  go_wp2
  go_loopw [5] (fun i wr => wr = w ∧ ∃ j : Nat, j ≤ n ∧ i = .int .i64 j ∧ ∀ q, q < j → (es.getD q Wt.none).x ≠ t) (fun i _ => n - (intOf i).toNat)
  case atStart => exact ⟨rfl, 0, by omega, rfl, fun q hq => by omega⟩
  case round =>
    obtain ⟨rfl, j, hj, rfl, hno⟩ := hrel
    by_cases hlt : j < n
    · have hlt' : (j : Int) < n := by omega
      have hj0 : (0 : Int) ≤ j := by omega
      obtain ⟨gx, ox, hAx, hcx⟩ := H.out
      obtain ⟨rfl, hgx⟩ := hAx (by rw [HL.out]; omega)
      obtain ⟨p0, p1, p2, p3⟩ := hcx j (by rw [HL.out]; exact hlt)
      clear hAx hcx
      by_cases hx : (es.getD j Wt.none).x = t
      · have he : findI es t = j := by
          have := findW_eq es t j (by rw [HL.out]; exact hlt) hx hno
          unfold findI
          rw [this, if_pos (by rw [HL.out]; exact hlt)]
        rw [hx] at p0
        have hxb : (t == t) = true := by simp
        go_wp2
        go_ret
        exact ⟨by first | rfl | (rw [he]; rfl), rfl⟩
      · have HN := Lib.hid (show ∀ q, q < j + 1 → (es.getD q Wt.none).x ≠ t from fun q hq => by
          rcases Nat.lt_or_ge q j with h | h
          · exact hno q h
          · rw [show q = j from by omega]; exact hx)
        generalize (es.getD j Wt.none).x = ex at *
        have hxb : (ex == t) = false := by simp [hx]
        go_wp2
        go_roundw
        case rel => exact ⟨by trivial, j + 1, by omega, by go_num, HN.out⟩
        case measure => simp [intOf]; omega
    · have hk' : j = n := by omega
      subst hk'
      have hge : ¬ (j : Int) < j := by omega
      have he : findI es t = -1 := by
        have := findW_none es t (fun q hq => hno q (by rw [HL.out] at hq; exact hq))
        unfold findI
        rw [this, if_neg (by omega)]
      go_wp2
      go_ret
      exact ⟨by first | rfl | (rw [he]; rfl), rfl⟩

set_option maxHeartbeats 2000000 in
theorem same_true (A1 A2 : Option Addr) (n c1 c2 : Nat) (es : List Wt) (w : World) (h1 : RdW w A1 es) (h2 : RdW w A2 es) (hl : es.length = n) (hn : n ≤ 10000) :
    Calls Try.prog 13 #[.slice A1 n c1, .slice A2 n c2] w fun e w' => e = .returned (.bool true) ∧ Below w.heap.size w w' := by
  have HL := Lib.hid hl
  have H1 := Lib.hid h1
  have H2 := Lib.hid h2
  clear hl h1 h2
  go_enter Try.func13, Try.ntmps13
  go_wp2
  go_loopw [5] (fun i wr => Below w.heap.size w wr ∧ ∃ j : Nat, j ≤ n ∧ i = .int .i64 j) (fun i _ => n - (intOf i).toNat)
  case atStart => exact ⟨Below.refl _ _, 0, by omega, rfl⟩
  case round =>
    obtain ⟨hb, j, hj, rfl⟩ := hrel
    by_cases hlt : j < n
    · have hlt' : (j : Int) < n := by omega
      have hj0 : (0 : Int) ≤ j := by omega
      obtain ⟨gx, ox, hAx, hcx⟩ := H1.out.below hb
      obtain ⟨rfl, hgx⟩ := hAx (by rw [HL.out]; omega)
      obtain ⟨p0, p1, p2, p3⟩ := hcx j (by rw [HL.out]; exact hlt)
      obtain ⟨gy, oy, hAy, hcy⟩ := H2.out.below hb
      obtain ⟨rfl, hgy⟩ := hAy (by rw [HL.out]; omega)
      obtain ⟨q0, q1, q2, q3⟩ := hcy j (by rw [HL.out]; exact hlt)
      clear hAx hcx hAy hcy
      generalize es.getD j Wt.none = E at *
      obtain ⟨ex, es', em, eu⟩ := E
      simp only at p0 p1 p2 p3 q0 q1 q2 q3
      go_wp2
      go_quiet (fail)
      go_wp2
      go_roundw
      case rel => exact ⟨by first | exact hb | exact Below.drew hb | (go_light; exact below_drewN hb _), j + 1, by omega, by go_num⟩
      case measure => simp [intOf]; omega
    · have hk' : j = n := by omega
      subst hk'
      have hge : ¬ (j : Int) < j := by omega
      go_wp2
      go_ret
      exact ⟨rfl, hb⟩
end Go.Proofs.Ytpbgdldaojpjkaa

/-
  catchboltlaw20.right, catchboltlaw20.alive; catchboltref03.Ints at like rows. The condition: errors.errorType reads as the program's text lays it.
-/
import Derived.Test.YtggkohkngockoaaDoorPCheck
namespace Go.Proofs.YtggkohkngockoaaDoor
open Go.ChangeShapes Go.WideShapes Go.ChangeAt Go.RowKit Go.Maps
set_option linter.unusedVariables false
set_option linter.unusedSimpArgs false

set_option maxHeartbeats 1000000 in
theorem ints_yes (A B : Option Addr) (n c d : Nat) (xs : List Int) (w : World) (ha : RdN .i64 w A xs) (hb : RdN .i64 w B xs) (hl : xs.length = n) (hn : n ≤ 1000) :
    Calls Tryd.prog 13 #[.slice A n c, .slice B n d] w fun e w' => e = .returned (.bool true) ∧ Below w.heap.size w w' := by
  have HA := Lib.hid ha
  have HB := Lib.hid hb
  have HL := Lib.hid hl
  clear ha hb hl
  go_enter Tryd.func13, Tryd.ntmps13
  go_wp2
  go_loopw [5] (fun i wr => ∃ k : Nat, k ≤ n ∧ i = .int .i64 k ∧ Below w.heap.size w wr) (fun i _ => n - (intOf i).toNat)
  case atStart => exact ⟨0, Nat.zero_le _, rfl, Below.refl _ _⟩
  case round =>
    obtain ⟨k, hk, rfl, hbr⟩ := hrel
    have HBR := Lib.hid hbr
    by_cases hlt : k < n
    · have hlt' : (k : Int) < n := by omega
      obtain ⟨ga, oa, hA, hca⟩ := HA.out.below hbr
      obtain ⟨gb, ob, hB, hcb⟩ := HB.out.below hbr
      obtain ⟨rfl, la⟩ := hA (by rw [HL.out]; omega)
      obtain ⟨rfl, lb⟩ := hB (by rw [HL.out]; omega)
      have c1 := hca k (by rw [HL.out]; exact hlt)
      have c2 := hcb k (by rw [HL.out]; exact hlt)
      obtain ⟨z, hz⟩ : ∃ z, xs.getD k 0 = z := ⟨_, rfl⟩
      rw [hz] at c1 c2
      clear hA hB hca hcb hz hbr
      go_wp2
      go_quiet (fail)
      go_wp2
      go_roundw
      case rel => exact ⟨k + 1, by omega, by go_num, below_drewN HBR.out _⟩
      case measure => simp [intOf]; omega
    · have hkn : k = n := by omega
      subst hkn
      have hge : ¬ (k : Int) < k := by omega
      clear hbr
      go_wp2
      go_ret
      exact ⟨rfl, HBR.out⟩

theorem rightF_ok {es : List Ev} (h : okF start es 0 = true) : rightF es = es := by unfold rightF; rw [play_ok h]
theorem rightF_bad {es : List Ev} {p : Nat} {k : Int} (h : playF start es 0 = .inr (p, k)) : rightF es = es.take p := by unfold rightF; rw [h]
theorem play_lt {es : List Ev} {p : Nat} {k : Int} (h : playF start es 0 = .inr (p, k)) : p < es.length := by have := (play_at h).2.1; omega
theorem ok_or (es : List Ev) : okF start es 0 = true ∨ ∃ p k, playF start es 0 = .inr (p, k) := by
  unfold okF
  cases h : playF start es 0 with
  | inl x => exact .inl rfl
  | inr x => exact .inr ⟨x.1, x.2, rfl⟩
theorem right_le (es : List Ev) : (rightF es).length ≤ es.length := by
  rcases ok_or es with h | ⟨p, k, h⟩
  · rw [rightF_ok h]; exact Nat.le_refl _
  · rw [rightF_bad h, List.length_take]; omega
theorem right_rd {w : World} {A : Option Addr} {es : List Ev} (h : RdE w A es) : RdE w A (rightF es) := by
  rcases ok_or es with h' | ⟨p, k, h'⟩
  · rw [rightF_ok h']; exact h
  · rw [rightF_bad h']; exact h.take p

set_option maxHeartbeats 1000000 in
theorem right_any (A : Option Addr) (n cp : Nat) (es : List Ev) (w : World) (hE : ErrT w) (hr : RdE w A es) (hl : es.length = n) (hcp : n ≤ cp) (hn : n ≤ 1000) :
    Calls Tryd.prog 15 #[.slice A n cp] w fun e w' => e = .returned (.slice A (rightF es).length cp) ∧ Below w.heap.size w w' := by
  have HE := Lib.hid hE
  rcases ok_or es with ho | ⟨p, k, ho⟩
  · have HC := Lib.hid (check_good A n cp es w hr hl hn ho)
    have HR : Hid ((rightF es).length = n) := Lib.hid (by rw [rightF_ok ho]; exact hl)
    clear hE hr hl ho
    rw [HR.out]
    go_enter Tryd.func15, Tryd.ntmps15
    go_wp2_with fail
    refine HC.out.mono ?_
    rintro e w1 ⟨rfl, hb1⟩
    have HB1 := Lib.hid hb1
    go_wp2_with (go_at_call 12; refine (at_err _ 0 (-1) _ (.inl ⟨rfl, rfl, rfl⟩) (HE.out.below HB1.out)).mono ?_; rintro e w2 ⟨rfl, hb2⟩)
    go_ret
    exact ⟨rfl, HB1.out.trans (hb2.mono HB1.out.size)⟩
  · have HC := Lib.hid (check_bad A n cp es w hr hl hn ho)
    have hpn : p < n := by have := play_lt ho; omega
    have HR : Hid ((rightF es).length = p) := Lib.hid (by rw [rightF_bad ho, List.length_take]; omega)
    have m1 : ¬ (p : Int) < 0 := by omega
    have m2 : (p : Int) < n := by omega
    have m3 : (p : Int) ≤ cp := by omega
    clear hE hr hl ho
    rw [HR.out]
    go_enter Tryd.func15, Tryd.ntmps15
    go_wp2_with fail
    refine HC.out.mono ?_
    rintro e w1 ⟨⟨b, rfl, hF⟩, hb1⟩
    have HB1 := Lib.hid hb1
    have HF := Lib.hid hF
    clear hF
    go_wp2_with (go_at_call 12; refine (at_err _ k p _ HF.out.err (HE.out.below HB1.out)).mono ?_; rintro e w2 ⟨rfl, hb2⟩)
    go_ret
    exact ⟨rfl, HB1.out.trans (hb2.mono HB1.out.size)⟩

def lA : List Ev := [⟨1, 1, 1, 0, 0, 0, 0⟩, ⟨2, 0, 1, 3, 0, 4, 0⟩, ⟨3, 0, 1, 3, 0, 4, 0⟩, ⟨5, 0, 1, 0, 0, 0, 0⟩, ⟨6, 0, 1, 0, 0, 0, 0⟩]
def eA : Ev := ⟨3, 0, 2, 3, 0, 4, 0⟩
theorem play_lA : playF start lA 0 = .inl [1] := by rfl
theorem play_lA2 : playF start (lA ++ [eA]) 0 = .inr (5, 11) := by rfl
end Go.Proofs.YtggkohkngockoaaDoor

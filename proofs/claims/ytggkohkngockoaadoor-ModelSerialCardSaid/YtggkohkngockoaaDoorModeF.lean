/-
  The modes of locks in plain terms: which cover which, which go together, the least above two.
-/
import Derived.WalkKit
namespace Go.Proofs.YtggkohkngockoaaDoor

def okB (m : Int) : Bool := decide (0 ≤ m ∧ m ≤ 4)
def covT (n : Nat) : Bool := ([true, false, false, false, false, true, true, false, false, false, true, true, true, false, false, true, true, false, true, false, true, true, true, true, true] : List Bool).getD n false
def togT (n : Nat) : Bool := ([true, true, true, true, true, true, true, true, true, false, true, true, true, false, false, true, true, false, true, false, true, false, false, false, false] : List Bool).getD n false
def covB (a b : Int) : Bool := if 0 ≤ a ∧ a ≤ 4 ∧ 0 ≤ b ∧ b ≤ 4 then covT (5 * a + b).toNat else false
def togB (a b : Int) : Bool := if 0 ≤ a ∧ a ≤ 4 ∧ 0 ≤ b ∧ b ≤ 4 then togT (5 * a + b).toNat else false
def leastI (a b : Int) : Int := if covB 0 a && covB 0 b then 0 else if covB 1 a && covB 1 b then 1 else if covB 2 a && covB 2 b then 2 else if covB 3 a && covB 3 b then 3 else 4
def needI (m : Int) : Int := if m = 3 then 1 else if m = 4 then 2 else 0
def needE (m : Int) : Int := if m = 1 ∨ m = 2 then 12 else if 0 ≤ m ∧ m ≤ 4 then 0 else 1
/-- whether each number below n that is above a and b is above m -/
def upB (a b m : Int) : Nat → Bool
  | 0 => true
  | n + 1 => upB a b m n && !(covB n a && covB n b && !covB n m)

theorem five {P : Int → Prop} (h0 : P 0) (h1 : P 1) (h2 : P 2) (h3 : P 3) (h4 : P 4) (a : Int) (h : 0 ≤ a ∧ a ≤ 4) : P a := by
  obtain rfl | rfl | rfl | rfl | rfl : a = 0 ∨ a = 1 ∨ a = 2 ∨ a = 3 ∨ a = 4 := by omega
  all_goals assumption

theorem each {p : Int → Bool} (h : (p 0 && p 1 && p 2 && p 3 && p 4) = true) (a : Int) (ha : 0 ≤ a ∧ a ≤ 4) : p a = true := by
  simp only [Bool.and_eq_true] at h
  obtain ⟨⟨⟨⟨h0, h1⟩, h2⟩, h3⟩, h4⟩ := h
  exact five (P := fun a => p a = true) h0 h1 h2 h3 h4 a ha

def allB (p : Int → Bool) : Bool := p 0 && p 1 && p 2 && p 3 && p 4
theorem all2 {p : Int → Int → Bool} (h : allB (fun a => allB (p a)) = true) (a b : Int) (ha : 0 ≤ a ∧ a ≤ 4) (hb : 0 ≤ b ∧ b ≤ 4) : p a b = true :=
  each (p := p a) (each (p := fun a => allB (p a)) h a ha) b hb
theorem all3 {p : Int → Int → Int → Bool} (h : allB (fun a => allB fun b => allB (p a b)) = true) (a b c : Int) (ha : 0 ≤ a ∧ a ≤ 4) (hb : 0 ≤ b ∧ b ≤ 4) (hc : 0 ≤ c ∧ c ≤ 4) : p a b c = true :=
  each (p := p a b) (all2 (p := fun a b => allB (p a b)) h a b ha hb) c hc

theorem covB_out {a b : Int} (h : ¬ (0 ≤ a ∧ a ≤ 4 ∧ 0 ≤ b ∧ b ≤ 4)) : covB a b = false := if_neg h
theorem togB_out {a b : Int} (h : ¬ (0 ≤ a ∧ a ≤ 4 ∧ 0 ≤ b ∧ b ≤ 4)) : togB a b = false := if_neg h

theorem leastI_in (a b : Int) : 0 ≤ leastI a b ∧ leastI a b ≤ 4 := by
  unfold leastI; repeat' split
  all_goals omega

/-- going up from m: the first that covers both is the least -/
theorem least_step (a b m : Int) (ha : 0 ≤ a ∧ a ≤ 4) (hb : 0 ≤ b ∧ b ≤ 4) (hm : 0 ≤ m ∧ m ≤ 4) (hl : m ≤ leastI a b) :
    (covB m a = true → covB m b = true → leastI a b = m) ∧ (covB m a = false ∨ covB m b = false → m + 1 ≤ leastI a b) := by
  have h := all3 (p := fun a b m => !decide (m ≤ leastI a b) || (if covB m a && covB m b then decide (leastI a b = m) else decide (m + 1 ≤ leastI a b))) (by decide +kernel) a b m ha hb hm
  simp only [hl, decide_true, Bool.not_true, Bool.false_or] at h
  constructor
  · intro h1 h2; simpa [h1, h2] using h
  · rintro (h1 | h1) <;> simpa [h1] using h
theorem least_up (a b m : Int) (ha : 0 ≤ a ∧ a ≤ 4) (hb : 0 ≤ b ∧ b ≤ 4) (hl : m = leastI a b) : upB a b m 5 = true := by
  have h := all2 (p := fun a b => upB a b (leastI a b) 5) (by decide +kernel) a b ha hb
  rw [hl]; exact h
end Go.Proofs.YtggkohkngockoaaDoor

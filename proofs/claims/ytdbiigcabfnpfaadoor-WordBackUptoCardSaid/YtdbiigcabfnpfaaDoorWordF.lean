/-
  Numbers as bytes: the bytes of a number in a width, the number of bytes, the first number that isn't in the width; no program. No conditions.
-/
import Derived.WalkKit
import Derived.ProofKit
namespace Go.Proofs.YtdbiigcabfnpfaaDoor
open Go.ChangeShapes Go.WideShapes Go.ChangeAt Go.RowKit
set_option linter.unusedVariables false

/-- 256 so many times -/
def pow256 : Nat → Int
  | 0 => 1
  | n + 1 => 256 * pow256 n
theorem pow256_pos (n : Nat) : 0 < pow256 n := by
  induction n with
  | zero => decide
  | succ n ih => unfold pow256; omega
theorem pow256_le {n : Nat} (h : n ≤ 4) : pow256 n ≤ 4294967296 := by
  match n, h with
  | 0, _ => decide
  | 1, _ => decide
  | 2, _ => decide
  | 3, _ => decide
  | 4, _ => decide
/-- the last k bytes of a number -/
def hi (z : Int) : Nat → List Int
  | 0 => []
  | k + 1 => (z / pow256 k % 256) :: hi z k
theorem hi_length (z : Int) (k : Nat) : (hi z k).length = k := by
  induction k with
  | zero => rfl
  | succ k ih => simp [hi, ih]
theorem hi_range (z : Int) (k : Nat) : ∀ x ∈ hi z k, 0 ≤ x ∧ x < 256 := by
  induction k with
  | zero => simp [hi]
  | succ k ih =>
    intro x hx
    simp only [hi, List.mem_cons] at hx
    rcases hx with rfl | hx
    · omega
    · exact ih x hx
def inW (W : Nat) (z : Int) : Bool := decide (0 ≤ z) && decide (z < pow256 W)
theorem inW_iff {W : Nat} {z : Int} : inW W z = true ↔ 0 ≤ z ∧ z < pow256 W := by simp [inW]
theorem inW_no {W : Nat} {z : Int} (h : inW W z = false) : z < 0 ∨ pow256 W ≤ z := by
  have : ¬ (0 ≤ z ∧ z < pow256 W) := fun h' => by rw [inW_iff.2 h'] at h; cases h
  omega
/-- the first number that isn't in the width -/
def firstBad (W : Nat) (l : List Int) : Nat := l.findIdx fun z => !inW W z
theorem firstBad_le (W : Nat) (l : List Int) : firstBad W l ≤ l.length := List.findIdx_le_length
theorem firstBad_bad {W : Nat} {l : List Int} (h : firstBad W l < l.length) : inW W (l.getD (firstBad W l) 0) = false := by
  have : (!inW W (l[firstBad W l]'h)) = true := List.findIdx_getElem (p := fun z => !inW W z) (xs := l) (w := h)
  rw [List.getD_eq_getElem?_getD, List.getElem?_eq_getElem h]
  simpa using this
theorem firstBad_ok {W : Nat} {l : List Int} {i : Nat} (h : i < firstBad W l) : inW W (l.getD i 0) = true := by
  have hl := firstBad_le W l
  have := List.not_of_lt_findIdx (p := fun z => !inW W z) (xs := l) (i := i) h
  rw [List.getD_eq_getElem?_getD, List.getElem?_eq_getElem (by omega)]
  simpa using this
theorem firstBad_lt {W : Nat} {l : List Int} {k : Nat} (hk : k < l.length) (h : ∀ i, i < k → inW W (l.getD i 0) = true) (hb : inW W (l.getD k 0) = false) : firstBad W l = k := by
  rcases Nat.lt_trichotomy (firstBad W l) k with h1 | h1 | h1
  · have := firstBad_bad (W := W) (l := l) (by omega)
    rw [h _ h1] at this; cases this
  · exact h1
  · rw [firstBad_ok h1] at hb; cases hb
theorem firstBad_none {W : Nat} {l : List Int} (h : ∀ i, i < l.length → inW W (l.getD i 0) = true) : firstBad W l = l.length := by
  have h0 := firstBad_le W l
  rcases Nat.lt_or_ge (firstBad W l) l.length with h1 | h1
  · have := firstBad_bad h1
    rw [h _ h1] at this; cases this
  · omega
/-- the bytes of numbers -/
def putB (W : Nat) (l : List Int) : List Int := l.flatMap fun z => hi z W
theorem putB_snoc (W : Nat) (l : List Int) (z : Int) : putB W (l ++ [z]) = putB W l ++ hi z W := by simp [putB]
theorem putB_cons (W : Nat) (l : List Int) (z : Int) : putB W (z :: l) = hi z W ++ putB W l := by simp [putB]
theorem putB_length (W : Nat) (l : List Int) : (putB W l).length = W * l.length := by
  induction l with
  | nil => rfl
  | cons z l ih => rw [putB_cons, List.length_append, ih, hi_length, List.length_cons, Nat.mul_succ]; omega
theorem putB_range (W : Nat) (l : List Int) : ∀ x ∈ putB W l, 0 ≤ x ∧ x < 256 := by
  intro x hx
  obtain ⟨z, _, h⟩ := List.mem_flatMap.1 hx
  exact hi_range z W x h
theorem take_snoc {l : List Int} {k : Nat} (h : k < l.length) : l.take (k + 1) = l.take k ++ [l.getD k 0] := by
  rw [List.take_add_one, List.getElem?_eq_getElem h, List.getD_eq_getElem?_getD, List.getElem?_eq_getElem h]; rfl
def okW (width : Int) : Bool := decide (1 ≤ width) && decide (width ≤ 4)
theorem okW_iff {width : Int} : okW width = true ↔ 1 ≤ width ∧ width ≤ 4 := by simp [okW]
/-- what is put: the bytes, the error's number, its place -/
def putS (width : Int) (zb zl : List Int) : List Int × Int × Int :=
  if okW width = false then ([], 1, -1) else if firstBad width.toNat zl < zl.length then ([], 2, firstBad width.toNat zl) else (zb ++ putB width.toNat zl, 0, -1)

/-- the number of bytes -/
def num (n : Int) : List Int → Int
  | [] => n
  | b :: r => num (256 * n + b) r
theorem num_append (n : Int) (a b : List Int) : num n (a ++ b) = num (num n a) b := by
  induction a generalizing n with
  | nil => rfl
  | cons x a ih => exact ih _
theorem num_bound (l : List Int) : ∀ n : Int, 0 ≤ n → (∀ x ∈ l, 0 ≤ x ∧ x < 256) → 0 ≤ num n l ∧ num n l < (n + 1) * pow256 l.length := by
  induction l with
  | nil => intro n hn _; simp [num, pow256]; omega
  | cons x l ih =>
    intro n hn h
    have hx := h x (by simp)
    obtain ⟨h1, h2⟩ := ih (256 * n + x) (by omega) (fun y hy => h y (by simp [hy]))
    refine ⟨h1, Int.lt_of_lt_of_le h2 ?_⟩
    simp only [List.length_cons, pow256]
    have hp := pow256_pos l.length
    have : (256 * n + x + 1) * pow256 l.length ≤ (256 * (n + 1)) * pow256 l.length := Int.mul_le_mul_of_nonneg_right (by omega) (by omega)
    refine Int.le_trans this ?_
    rw [Int.mul_comm 256 (n + 1), Int.mul_assoc]
    exact Int.le_refl _
/-- what is taken: the number, the error's number, its place -/
def takeS (zb : List Int) (at_ : Nat) (width : Int) : Int × Int × Int :=
  if okW width = false then (0, 1, -1) else if zb.length < at_ + width.toNat then (0, 3, zb.length) else (num 0 ((zb.drop at_).take width.toNat), 0, -1)
def takeAt (zb : List Int) (at_ : Nat) (width : Int) : Nat := if (takeS zb at_ width).2.1 = 0 then at_ + width.toNat else at_
theorem takeAt_le {zb : List Int} {at_ : Nat} {width : Int} (h : at_ ≤ zb.length) : takeAt zb at_ width ≤ zb.length := by
  unfold takeAt takeS
  by_cases h1 : okW width = false
  · rw [if_pos h1]; simpa using h
  · rw [if_neg h1]
    by_cases h2 : zb.length < at_ + width.toNat
    · rw [if_pos h2]; simpa using h
    · rw [if_neg h2]; simp; omega

/-- the number of a number's last bytes -/
theorem num_hi (z : Int) (k : Nat) : ∀ n : Int, num n (hi z k) = n * pow256 k + z % pow256 k := by
  induction k with
  | zero => intro n; simp [hi, num, pow256]
  | succ k ih =>
    intro n
    simp only [hi, num, ih, pow256]
    have hp := pow256_pos k
    generalize pow256 k = p at *
    have e1 : z % (256 * p) = z % p + p * (z / p % 256) := by
      have a1 := Int.mul_ediv_add_emod z p
      have a2 := Int.mul_ediv_add_emod (z / p) 256
      have a3 := Int.emod_nonneg z (show p ≠ 0 by omega)
      have a4 := Int.emod_lt_of_pos z hp
      have a5 : 0 ≤ p * (z / p % 256) := Int.mul_nonneg (by omega) (by omega)
      have a6 : p * (z / p % 256) ≤ p * 255 := Int.mul_le_mul_of_nonneg_left (by omega) (by omega)
      have a7 : z = (z % p + p * (z / p % 256)) + (256 * p) * (z / p / 256) := by
        have : (256 * p) * (z / p / 256) + p * (z / p % 256) = p * (z / p) := by
          rw [Int.mul_comm 256 p, Int.mul_assoc, ← Int.mul_add, a2]
        omega
      have a8 : (z % p + p * (z / p % 256)) % (256 * p) = z % p + p * (z / p % 256) := Int.emod_eq_of_lt (by omega) (by omega)
      rw [a7, Int.add_mul_emod_self_left, a8] <;> rw [← a7]
    rw [e1, Int.add_mul]
    have : 256 * n * p = n * (256 * p) := by rw [Int.mul_comm 256 n, Int.mul_assoc]
    rw [this, Int.mul_comm (z / p % 256) p]
    omega
theorem num_put {W : Nat} {z : Int} (h : inW W z = true) : num 0 (hi z W) = z := by
  obtain ⟨h1, h2⟩ := inW_iff.1 h
  rw [num_hi, Int.emod_eq_of_lt h1 h2]; omega
theorem num_shift (l : List Int) : ∀ m : Int, num m l = m * pow256 l.length + num 0 l := by
  induction l with
  | nil => intro m; simp [num, pow256]
  | cons x l ih =>
    intro m
    simp only [num, List.length_cons, pow256]
    rw [ih (256 * m + x), ih (256 * 0 + x), Int.add_mul, Int.mul_zero, Int.zero_add]
    have : 256 * m * pow256 l.length = m * (256 * pow256 l.length) := by rw [Int.mul_comm 256 m, Int.mul_assoc]
    rw [this]; omega
/-- the bytes of the number of bytes -/
theorem hi_num (l : List Int) : ∀ n : Int, (∀ x ∈ l, 0 ≤ x ∧ x < 256) → hi (num n l) l.length = l := by
  induction l with
  | nil => intro n _; rfl
  | cons x l ih =>
    intro n h
    have hx := h x (by simp)
    have hr := fun y hy => h y (List.mem_cons_of_mem _ hy)
    simp only [num, List.length_cons, hi]
    rw [ih _ hr]
    obtain ⟨b1, b2⟩ := num_bound l 0 (by omega) hr
    have hp := pow256_pos l.length
    rw [num_shift l (256 * n + x), Int.add_comm, Int.add_mul_ediv_right _ _ (by omega), Int.ediv_eq_zero_of_lt b1 (by omega)]
    congr 1
    omega
theorem inW_num {l : List Int} (h : ∀ x ∈ l, 0 ≤ x ∧ x < 256) : inW l.length (num 0 l) = true := by
  obtain ⟨b1, b2⟩ := num_bound l 0 (by omega) h
  exact inW_iff.2 ⟨b1, by omega⟩
theorem pow256_two (n : Nat) : (2 : Int) ^ (8 * n) = pow256 n := by
  induction n with
  | zero => rfl
  | succ n ih => rw [Nat.mul_succ, Int.pow_add, ih, pow256, Int.mul_comm]; rfl
end Go.Proofs.YtdbiigcabfnpfaaDoor

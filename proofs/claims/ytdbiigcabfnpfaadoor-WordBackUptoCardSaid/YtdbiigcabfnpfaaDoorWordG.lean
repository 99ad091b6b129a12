/-
  Numbers that are put are taken, bytes that are taken are put: the lists; no program. Laws of readers beside rows that grow. No other conditions.
-/
import Derived.Test.YtdbiigcabfnpfaaDoorWordS
namespace Go.Proofs.YtdbiigcabfnpfaaDoor
open Go.ChangeShapes Go.WideShapes Go.ChangeAt Go.RowKit
set_option linter.unusedVariables false

theorem putB_at (W : Nat) (l : List Int) : ∀ j, j < l.length → ((putB W l).drop (W * j)).take W = hi (l.getD j 0) W := by
  induction l with
  | nil => intro j h; simp at h
  | cons z l ih =>
    intro j h
    rw [putB_cons]
    cases j with
    | zero => rw [Nat.mul_zero, List.drop_zero, List.take_append_of_le_length (by rw [hi_length]; exact Nat.le_refl _), List.take_of_length_le (by rw [hi_length]; exact Nat.le_refl _)]; rfl
    | succ j =>
      rw [Nat.mul_succ, Nat.add_comm, ← List.drop_drop, List.drop_append_of_le_length (by rw [hi_length]; exact Nat.le_refl _), (List.drop_of_length_le (by rw [hi_length]; exact Nat.le_refl _) : (hi z W).drop W = []), List.nil_append, ih j (by simpa using h)]
      rfl
/-- the numbers of k groups of W bytes -/
def nums (W : Nat) (zb : List Int) : Nat → List Int
  | 0 => []
  | k + 1 => nums W zb k ++ [num 0 ((zb.drop (W * k)).take W)]
theorem nums_length (W : Nat) (zb : List Int) (k : Nat) : (nums W zb k).length = k := by
  induction k with
  | zero => rfl
  | succ k ih => simp [nums, ih]
theorem group_length {W k : Nat} {zb : List Int} (h : W * (k + 1) ≤ zb.length) : ((zb.drop (W * k)).take W).length = W := by
  rw [Nat.mul_succ] at h
  simp
  omega
theorem putB_nums {W : Nat} {zb : List Int} (hr : ∀ x ∈ zb, 0 ≤ x ∧ x < 256) : ∀ k, W * k ≤ zb.length → putB W (nums W zb k) = zb.take (W * k) := by
  intro k
  induction k with
  | zero => intro _; simp [nums, putB]
  | succ k ih =>
    intro h
    have h' := h
    rw [Nat.mul_succ] at h'
    have hg := group_length h
    have e := hi_num ((zb.drop (W * k)).take W) 0 (fun x hx => hr x (List.mem_of_mem_drop (List.mem_of_mem_take hx)))
    rw [hg] at e
    rw [nums, putB_snoc, ih (by omega), e, Nat.mul_succ, List.take_add]
theorem inW_nums {W : Nat} {zb : List Int} (hr : ∀ x ∈ zb, 0 ≤ x ∧ x < 256) : ∀ k, W * k ≤ zb.length → ∀ x ∈ nums W zb k, inW W x = true := by
  intro k
  induction k with
  | zero => intro _ x hx; simp [nums] at hx
  | succ k ih =>
    intro h x hx
    have h' := h
    rw [Nat.mul_succ] at h'
    simp only [nums, List.mem_append, List.mem_singleton] at hx
    rcases hx with hx | rfl
    · exact ih (by omega) x hx
    · have := inW_num (l := (zb.drop (W * k)).take W) (fun x hx => hr x (List.mem_of_mem_drop (List.mem_of_mem_take hx)))
      rwa [group_length h] at this
theorem firstBad_all {W : Nat} {l : List Int} (h : ∀ x ∈ l, inW W x = true) : firstBad W l = l.length :=
  firstBad_none (fun i hi => by
    rw [List.getD_eq_getElem?_getD, List.getElem?_eq_getElem hi]
    exact h _ (List.getElem_mem hi))
theorem okW_nat {W : Nat} (h1 : 1 ≤ W) (h4 : W ≤ 4) : okW (W : Int) = true := okW_iff.2 ⟨by omega, by omega⟩
theorem take_put {W m j : Nat} {l : List Int} (h1 : 1 ≤ W) (h4 : W ≤ 4) (hm : l.length = m) (hj : j < m) (hall : ∀ x ∈ l, inW W x = true) :
    takeS (putB W l) (W * j) W = (l.getD j 0, 0, -1) ∧ takeAt (putB W l) (W * j) W = W * (j + 1) := by
  have hmul : W * (j + 1) ≤ W * m := Nat.mul_le_mul_left W hj
  rw [Nat.mul_succ] at hmul
  have hlen : ¬ (putB W l).length < W * j + (W : Int).toNat := by rw [putB_length, hm, Int.toNat_natCast]; omega
  have hT := takeS_ok (zb := putB W l) (pl := W * j) (okW_nat h1 h4) hlen
  have hin : inW W (l.getD j 0) = true := by
    rw [List.getD_eq_getElem?_getD, List.getElem?_eq_getElem (by omega)]
    exact hall _ (List.getElem_mem (by omega))
  rw [Int.toNat_natCast, putB_at W l j (by omega), num_put hin] at hT
  exact ⟨hT, by unfold takeAt; rw [hT, Nat.mul_succ]; simp⟩
theorem take_group {W k : Nat} {zb : List Int} (h1 : 1 ≤ W) (h4 : W ≤ 4) (h : W * k + W ≤ zb.length) :
    takeS zb (W * k) W = (num 0 ((zb.drop (W * k)).take W), 0, -1) ∧ takeAt zb (W * k) W = W * (k + 1) := by
  have hT := takeS_ok (zb := zb) (pl := W * k) (okW_nat h1 h4) (by rw [Int.toNat_natCast]; omega)
  rw [Int.toNat_natCast] at hT
  exact ⟨hT, by unfold takeAt; rw [hT, Nat.mul_succ]; simp⟩
theorem put_nums {W k : Nat} {zb : List Int} (h1 : 1 ≤ W) (h4 : W ≤ 4) (hr : ∀ x ∈ zb, 0 ≤ x ∧ x < 256) (h : W * k ≤ zb.length) : putS W [] (nums W zb k) = (zb.take (W * k), 0, -1) := by
  rw [putS_ok (okW_nat h1 h4) (by rw [Int.toNat_natCast, firstBad_all (inW_nums hr k h)]; omega), Int.toNat_natCast, putB_nums hr k h, List.nil_append]

theorem Rdr.grown {w w1 : World} {B g n c : Nat} {A : Option Addr} {zb : List Int} {pl : Nat} {r : Option Nat} (h : Rdr w B g A n c zb pl) (hg : w.grownBy w1 r) (h1 : r ≠ some g) (h2 : ∀ q o, A = some ⟨q, o, none⟩ → r ≠ some q) : Rdr w1 B g A n c zb pl := by
  have hb := fun o => World.cell?_of_block (w := w) (w' := w1) (a := ⟨g, o, none⟩) (hg.block g h.lt (fun e => h1 e.symm))
  exact ⟨h.lo, Nat.lt_of_lt_of_le h.lt hg.size, h.len, h.row, (hb 0).trans h.c0, (hb 1).trans h.c1, (World.frozen?_of_block (w := w) (a := ⟨g, 1, none⟩) (hg.block g h.lt (fun e => h1 e.symm))).trans h.fz, h.rd.kept hg (fun q o e => fun e' => h2 q o e e'.symm), h.le, h.big⟩
end Go.Proofs.YtdbiigcabfnpfaaDoor

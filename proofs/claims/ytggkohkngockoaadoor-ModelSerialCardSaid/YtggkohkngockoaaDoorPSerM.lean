/-
  catchboltlaw20.ModelSerial: the map from a committed transaction to its place, plain. No conditions.
-/
import Derived.Test.YtggkohkngockoaaDoorPSerF
namespace Go.Proofs.YtggkohkngockoaaDoor
open Go.Maps Go.WideShapes
set_option linter.unusedVariables false

theorem done_state {l : List Ev} (ho : okF start l 0 = true) {k : Nat} (hk : k ≤ l.length) {t : Int} (ht : t ∈ serialR (l.take k)) : ((ofR (l.take k) t).state = 3 ∨ (ofR (l.take k) t).state = 4) ∧ endR (l.take k) t < k := by
  obtain ⟨x, y, _⟩ := good_ok (ok_good ho hk) hk
  have hi := inv_of x
  have hl : (l.take k).length = k := by rw [List.length_take]; omega
  rw [← hi.ser] at ht
  obtain ⟨i, z, hz, e1, e2⟩ := hi.ser3 _ ht
  have h1 := (hi.tx i z hz).st
  have h2 := (hi.tx i z hz).fin
  rw [← e1] at h1 h2
  rw [hl] at h2
  refine ⟨by omega, ?_⟩
  rcases h2 with h | h
  · exact h.2.2.1
  · exact absurd ht h.1
theorem fresh {l : List Ev} (ho : okF start l 0 = true) {k : Nat} (hk : k < l.length) (h6 : (l.getD k Ev.none).kind = 6) : (l.getD k Ev.none).tx ∉ serialR (l.take k) := by
  intro hm
  have h1 := (done_state ho (by omega) hm).1
  have h0 := ok_good ho (show k + 1 ≤ l.length by omega) k (by omega)
  generalize l.getD k Ev.none = E at *
  unfold nextR at h0
  split at h0
  · omega
  · simp only [h6] at h0
    simp at h0
    omega
theorem not_done {l : List Ev} (ho : okF start l 0 = true) {k : Nat} (hk : k < l.length) (h6 : (l.getD k Ev.none).kind = 6) : endR (l.take k) (l.getD k Ev.none).tx = k := by
  have hf := fresh ho hk h6
  obtain ⟨x, y, _⟩ := good_ok (ok_good ho (show k ≤ l.length by omega)) (by omega)
  have hi := inv_of x
  have hl : (l.take k).length = k := by rw [List.length_take]; omega
  have h0 := ok_good ho (show k + 1 ≤ l.length by omega) k (by omega)
  generalize hE : l.getD k Ev.none = E at *
  have hin : 1 ≤ E.tx ∧ E.tx ≤ (after start (l.take k) 0).all.length := by
    refine Decidable.byContradiction fun hc => ?_
    have hn := of_none (l.take k) E.tx (fun e he => by
      by_cases h8 : e.kind = 8
      · exact .inl h8
      · right
        have := hi.non e he h8
        omega)
    unfold nextR at h0
    split at h0
    · omega
    · simp only [h6, hn] at h0
      simp [rtx0] at h0
  rcases ser_end hi hin.1 hin.2 with ⟨m, _, _⟩ | ⟨_, m⟩
  · rw [hi.ser] at m; exact absurd m hf
  · rw [m, hl]
def endV (l : List Ev) : Nat → Int → Int
  | 0, _ => 0
  | k + 1, t => if (l.getD k Ev.none).kind = 6 ∧ (l.getD k Ev.none).tx = t then (k : Int) else endV l k t
def endD (l : List Ev) : Nat → DataW Unit
  | 0 => .map []
  | k + 1 => if (l.getD k Ev.none).kind = 6 then (endD l k).put (.int .i64 (l.getD k Ev.none).tx) (modeD k) else endD l k
theorem serial_step {l : List Ev} {k : Nat} (h : k < l.length) : serialR (l.take (k + 1)) = serialR (l.take k) ++ (if (l.getD k Ev.none).kind = 6 then [(l.getD k Ev.none).tx] else []) := by rw [take_snoc h, serial_snoc]
theorem endV_end {l : List Ev} (ho : okF start l 0 = true) {t : Int} (k : Nat) (hk : k ≤ l.length) (ht : t ∈ serialR (l.take k)) : endV l k t = endR (l.take k) t := by
  induction k with
  | zero => simp [serialR] at ht
  | succ k ih =>
    have hl : (l.take k).length = k := by rw [List.length_take]; omega
    rw [take_snoc (by omega), end_snoc, hl]
    unfold endV
    by_cases h6 : (l.getD k Ev.none).kind = 6 ∧ (l.getD k Ev.none).tx = t
    · have hq := not_done ho (show k < l.length by omega) h6.1
      rw [h6.2] at hq
      rw [if_pos h6, hq, if_neg (by omega), if_pos h6]
    · have hm : t ∈ serialR (l.take k) := by
        rw [serial_step (by omega), List.mem_append] at ht
        rcases ht with q | q
        · exact q
        · split at q
          · rename_i h
            simp only [List.mem_singleton] at q
            exact absurd ⟨h, q.symm⟩ h6
          · simp at q
      rw [if_neg h6, if_pos (done_state ho (by omega) hm).2]
      exact ih (by omega) hm
theorem intK : Keyed Tryd.prog 3 := int_keyed Tryd.underlying3
theorem keyOf_int {t : Int} (ht : (Lit.int .i64 t).wf = true) : keyOf Tryd.prog 3 (.int .i64 t) = some (.int .i64 t) := by
  simp [keyOf, mapKey, Tryd.underlying3, ht]
theorem endD_is (l : List Ev) (k : Nat) : IsMap (endD l k) := by
  induction k with
  | zero => exact ⟨[], rfl⟩
  | succ k ih =>
    unfold endD
    split
    · exact isMap_put ih _ _
    · exact ih
theorem endD_at {l : List Ev} (hw : ∀ k, k < l.length → (Lit.int .i64 (l.getD k Ev.none).tx).wf = true) {t : Int} (ht : (Lit.int .i64 t).wf = true) (k : Nat) (hk : k ≤ l.length) : (endD l k).atKey (.int .i64 t) (modeD 0) = modeD (endV l k t) := by
  induction k with
  | zero => rfl
  | succ k ih =>
    unfold endD endV
    by_cases h6 : (l.getD k Ev.none).kind = 6
    · rw [if_pos h6]
      by_cases he : (l.getD k Ev.none).tx = t
      · rw [if_pos ⟨h6, he⟩, he]
        exact atKey_put_same (endD_is l k) (intK.key (keyOf_int ht)) _ _
      · rw [if_neg (fun q => he q.2), atKey_put_other (fun e => he (by simpa using e.symm))]
        exact ih (by omega)
    · rw [if_neg h6, if_neg (fun q => h6 q.1)]
      exact ih (by omega)
theorem endD_size {l : List Ev} (ho : okF start l 0 = true) (hw : ∀ k, k < l.length → (Lit.int .i64 (l.getD k Ev.none).tx).wf = true) (k : Nat) (hk : k ≤ l.length) : Tidy (endD l k) ∧ size (endD l k) = (serialR (l.take k)).length ∧ ∀ t, (Lit.int .i64 t).wf = true → (has (endD l k) (.int .i64 t) = true → t ∈ serialR (l.take k)) := by
  induction k with
  | zero => exact ⟨tidy_empty, rfl, fun t _ h => by simp [endD, has] at h⟩
  | succ k ih =>
    obtain ⟨a, b, c⟩ := ih (by omega)
    rw [serial_step (by omega)]
    unfold endD
    by_cases h6 : (l.getD k Ev.none).kind = 6
    · rw [if_pos h6, if_pos h6]
      have hkw := intK.key (keyOf_int (hw k (by omega)))
      have hf := fresh ho (show k < l.length by omega) h6
      refine ⟨a.put hkw _, ?_, fun t ht h => ?_⟩
      · rw [size_put a, if_neg (fun q => hf (c _ (hw k (by omega)) q)), b, List.length_append]; rfl
      · by_cases he : t = (l.getD k Ev.none).tx
        · rw [he]; simp
        · rw [has_put_other (fun e => he (by simpa using e))] at h
          exact List.mem_append.2 (.inl (c t ht h))
    · rw [if_neg h6, if_neg h6, List.append_nil]
      exact ⟨a, b, c⟩
end Go.Proofs.YtggkohkngockoaaDoor

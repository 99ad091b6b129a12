/-
  What the code reads of a text is what the document reads; no program. No conditions.
-/
import Derived.Test.YtonphamahnagfaaDoorResF
namespace Go.Proofs.YtonphamahnagfaaDoor
open Go.ChangeShapes Go.WideShapes Go.ChangeAt Go.RowKit
set_option linter.unusedVariables false

theorem run_none_of {L : List UInt8} {i : Nat} {s : St} (h : (run s (L.take i)).isSome = false) : run s L = none := by
  rw [show L = L.take i ++ L.drop i from (List.take_append_drop _ _).symm, run_append]
  cases h' : run s (L.take i) with
  | none => rfl
  | some k => rw [h'] at h; cases h
theorem readL_fault {L : List UInt8} {i : Nat} (h1 : (run (.tab 0) (L.take i)).isSome = true) (h2 : (run (.tab 0) (L.take (i + 1))).isSome = false) : readL L = .inr i := by
  have hn := run_none_of h2
  obtain ⟨_, _, h3, h4⟩ := stops_at L (.tab 0) 0 hn
  simp only [Nat.sub_zero] at h3 h4
  unfold readL
  rw [hn]
  simp only
  rcases Nat.lt_trichotomy (stops (.tab 0) 0 L) i with h | h | h
  · rw [run_take h1 (show stops (.tab 0) 0 L + 1 ≤ i by omega)] at h4; cases h4
  · rw [h]
  · rw [run_take h3 (show i + 1 ≤ stops (.tab 0) 0 L by omega)] at h2; cases h2
theorem readL_text {L : List UInt8} {t r : Nat} (ht : 1 ≤ t ∧ t ≤ 250) (hr : r ≤ 250) (h : textL t r = L) : readL L = .inl (t, r) := by
  unfold readL
  rw [← h, run_text ht hr]
  by_cases h0 : r = 0
  · subst h0; simp; omega
  · rw [if_neg h0]; simp [h0]
theorem readL_none {L : List UInt8} (h : (run (.tab 0) L).isSome = true) (hn : ∀ t r, 1 ≤ t → t ≤ 250 → r ≤ 250 → textL t r ≠ L) : readL L = .inr L.length := by
  obtain ⟨s, hs⟩ := Option.isSome_iff_exists.1 h
  unfold readL
  rw [hs]
  rcases run_is L s hs with ⟨n, rfl, h1, h2⟩ | ⟨n, m, rfl, h1, h2, h3, h4⟩
  · by_cases h0 : n = 0
    · simp [h0]
    · rw [if_neg h0] at h1
      exact absurd (by unfold textL; rw [if_pos rfl]; exact h1.symm) (hn n 0 (by omega) h2 (by omega))
  · by_cases h0 : m = 0
    · simp [h0]
    · rw [if_neg h0] at h4
      exact absurd (by unfold textL; rw [if_neg h0]; exact h4.symm) (hn n m h1 h2 h3)

def isDg (c : UInt8) : Prop := 48 ≤ c.toNat ∧ c.toNat ≤ 57
theorem stepN_no {m : Nat} {c : UInt8} (h : ¬ isDg c) : stepN m c = none := by unfold stepN; exact if_neg h
theorem step_dg {m : Nat} {c : UInt8} (h : isDg c) : step (.tab m) c = (stepN m c).map .tab := by
  simp only [step]; unfold isDg at h
  rw [if_neg (by omega)]
/-- what a number's reading says of where the text stands -/
theorem numL_tab (r : List UInt8) : ∀ m j, (∀ i, numL m j r = .inr i → run (.tab m) r = none ∧ stops (.tab m) j r = i) ∧
    (∀ n i, numL m j r = .inl (n, i) → j ≤ i ∧ (i = j → n = m) ∧ (j < i → 1 ≤ n) ∧ run (.tab m) r = run (.tab n) (r.drop (i - j)) ∧ stops (.tab m) j r = stops (.tab n) i (r.drop (i - j)) ∧ ∀ c ∈ (r.drop (i - j)).head?, ¬ isDg c) := by
  induction r with
  | nil => intro m j; exact ⟨fun i h => by simp [numL] at h, fun n i h => by simp [numL] at h; obtain ⟨rfl, rfl⟩ := h; simp⟩
  | cons c r ih =>
    intro m j
    rw [numL_cons]
    by_cases hd : 48 ≤ c.toNat ∧ c.toNat ≤ 57
    · rw [if_pos hd]
      have hs := step_dg (m := m) (c := c) hd
      cases h2 : stepN m c with
      | none =>
        rw [h2] at hs
        refine ⟨fun i h => ?_, fun n i h => by simp at h⟩
        simp at h; subst h
        simp only [run, stops, hs, Option.map_none]
        exact ⟨trivial, trivial⟩
      | some k =>
        rw [h2] at hs
        obtain ⟨h3, h4⟩ := ih k (j + 1)
        refine ⟨fun i h => ?_, fun n i h => ?_⟩
        · simp only [run, stops, hs, Option.map_some]; exact h3 i h
        · obtain ⟨a1, a2, a3, a4, a5, a6⟩ := h4 n i h
          have e : i - j = (i - (j + 1)) + 1 := by omega
          rw [e, List.drop_succ_cons]
          simp only [run, stops, hs, Option.map_some]
          refine ⟨by omega, fun h => by omega, fun _ => ?_, a4, a5, a6⟩
          by_cases hij : j + 1 < i
          · exact a3 hij
          · rw [a2 (by omega)]; exact (stepN_some h2).2.2.2.1
    · rw [if_neg hd]
      refine ⟨fun i h => by simp at h, fun n i h => ?_⟩
      simp at h
      obtain ⟨rfl, rfl⟩ := h
      simp
      exact hd
theorem numL_row (t : Nat) (r : List UInt8) : ∀ m j, (∀ i, numL m j r = .inr i → run (.row t m) r = none ∧ stops (.row t m) j r = i) ∧
    (∀ n i, numL m j r = .inl (n, i) → j ≤ i ∧ (i = j → n = m) ∧ (j < i → 1 ≤ n) ∧ run (.row t m) r = run (.row t n) (r.drop (i - j)) ∧ stops (.row t m) j r = stops (.row t n) i (r.drop (i - j)) ∧ ∀ c ∈ (r.drop (i - j)).head?, ¬ isDg c) := by
  induction r with
  | nil => intro m j; exact ⟨fun i h => by simp [numL] at h, fun n i h => by simp [numL] at h; obtain ⟨rfl, rfl⟩ := h; simp⟩
  | cons c r ih =>
    intro m j
    rw [numL_cons]
    have hs : step (.row t m) c = (stepN m c).map (.row t) := rfl
    by_cases hd : 48 ≤ c.toNat ∧ c.toNat ≤ 57
    · rw [if_pos hd]
      cases h2 : stepN m c with
      | none =>
        rw [h2] at hs
        refine ⟨fun i h => ?_, fun n i h => by simp at h⟩
        simp at h; subst h
        simp only [run, stops, hs, Option.map_none]
        exact ⟨trivial, trivial⟩
      | some k =>
        rw [h2] at hs
        obtain ⟨h3, h4⟩ := ih k (j + 1)
        refine ⟨fun i h => ?_, fun n i h => ?_⟩
        · simp only [run, stops, hs, Option.map_some]; exact h3 i h
        · obtain ⟨a1, a2, a3, a4, a5, a6⟩ := h4 n i h
          have e : i - j = (i - (j + 1)) + 1 := by omega
          rw [e, List.drop_succ_cons]
          simp only [run, stops, hs, Option.map_some]
          refine ⟨by omega, fun h => by omega, fun _ => ?_, a4, a5, a6⟩
          by_cases hij : j + 1 < i
          · exact a3 hij
          · rw [a2 (by omega)]; exact (stepN_some h2).2.2.2.1
    · rw [if_neg hd]
      refine ⟨fun i h => by simp at h, fun n i h => ?_⟩
      simp at h
      obtain ⟨rfl, rfl⟩ := h
      simp
      exact hd
theorem readL_of {L : List UInt8} {s : St} {R : List UInt8} {i : Nat} (h1 : run (.tab 0) L = run s R) (h2 : stops (.tab 0) 0 L = stops s i R) :
    readL L = match run s R with
    | some (.tab n) => if n = 0 then .inr L.length else .inl (n, 0)
    | some (.row n m) => if m = 0 then .inr L.length else .inl (n, m)
    | none => .inr (stops s i R) := by
  unfold readL; rw [h1, h2]; rfl
theorem parse_eq (L : List UInt8) : parseL L = readL L := by
  unfold parseL numberL
  rw [List.drop_zero]
  obtain ⟨hA, hB⟩ := numL_tab L 0 0
  cases h : numL 0 0 L with
  | inr i =>
    obtain ⟨h1, h2⟩ := hA i h
    unfold readL; rw [h1, h2]
  | inl q =>
    obtain ⟨n, i⟩ := q
    obtain ⟨a1, a2, a3, a4, a5, a6⟩ := hB n i h
    rw [Nat.sub_zero] at a4 a5 a6
    rw [readL_of a4 a5]
    simp only
    by_cases hi0 : i = 0
    · subst hi0
      have hn := a2 rfl
      subst hn
      rw [if_pos rfl, List.drop_zero]
      cases L with
      | nil => simp [run]
      | cons c r =>
        have hc := a6 c (by simp)
        have hs : step (.tab 0) c = none := by simp only [step]; rw [if_neg (by omega), stepN_no hc]; rfl
        simp [run, stops, hs]
    · rw [if_neg hi0]
      have hn := a3 (by omega)
      have hle := numL_le L 0 0 n i h
      simp only
      by_cases hil : i = L.length
      · rw [if_pos hil, List.drop_of_length_le (by omega)]
        simp only [run]
        rw [if_neg (by omega)]
      · rw [if_neg hil]
        have hlt : i < L.length := by omega
        have hd := drop_get (L := L) (j := i) hlt
        rw [hd] at a6 ⊢
        have hc := a6 L[i] (by simp)
        rw [List.getElem?_eq_getElem hlt]
        by_cases h46 : L[i] = 46
        · rw [if_neg (by simp [h46])]
          have hs : step (.tab n) L[i] = some (.row n 0) := by simp only [step]; rw [if_pos ⟨by rw [h46]; rfl, hn⟩]
          simp only [run, stops, hs]
          obtain ⟨hC, hD⟩ := numL_row n (L.drop (i + 1)) 0 (i + 1)
          cases h5 : numL 0 (i + 1) (L.drop (i + 1)) with
          | inr j =>
            obtain ⟨h6, h7⟩ := hC j h5
            rw [h6, h7]
          | inl q =>
            obtain ⟨r, j⟩ := q
            obtain ⟨b1, b2, b3, b4, b5, b6⟩ := hD r j h5
            have hle2 := numL_le _ _ _ _ _ h5
            rw [List.length_drop] at hle2
            rw [b4, b5]
            rw [List.drop_drop, show i + 1 + (j - (i + 1)) = j by omega] at b6 ⊢
            simp only
            by_cases hj : j = i + 1
            · rw [if_pos hj]
              have hr := b2 hj
              subst hr
              by_cases hjl : j = L.length
              · rw [List.drop_of_length_le (by omega)]
                simp [run, hjl]
              · have hd2 := drop_get (L := L) (j := j) (by omega)
                rw [hd2] at b6 ⊢
                have hs2 : step (.row n 0) L[j] = none := by
                  have := stepN_no (m := 0) (b6 L[j] (by simp))
                  simp only [step, this]; rfl
                simp [run, stops, hs2]
            · rw [if_neg hj]
              have hr := b3 (by omega)
              simp only
              by_cases hjl : j < L.length
              · rw [if_pos hjl]
                have hd2 := drop_get (L := L) (j := j) hjl
                rw [hd2] at b6 ⊢
                have hs2 : step (.row n r) L[j] = none := by
                  have := stepN_no (m := r) (b6 L[j] (by simp))
                  simp only [step, this]; rfl
                simp [run, stops, hs2]
              · rw [if_neg hjl, List.drop_of_length_le (by omega)]
                simp only [run]
                rw [if_neg (by omega)]
        · rw [if_pos (by simp [h46])]
          have hs : step (.tab n) L[i] = none := by
            have h46' : ¬ (L[i].toNat = 46 ∧ 1 ≤ n) := fun hh => h46 (by have := UInt8.ofNat_toNat (x := L[i]); rw [hh.1] at this; exact this.symm)
            simp only [step]; rw [if_neg h46', stepN_no hc]; rfl
          simp [run, stops, hs]
end Go.Proofs.YtonphamahnagfaaDoor

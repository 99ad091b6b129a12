/-
  What was encoded is parsed, in plain terms.
-/
import Derived.Test.YtkmmhdghkbleaaaDoorAddsF
namespace Go.Proofs.YtkmmhdghkbleaaaDoor
set_option linter.unusedVariables false

def Ent.ok (e : Ent) : Bool := entB e.k e.c e.t e.r e.m e.p
def Ent.wr (e : Ent) : List Int := if 7 ≤ e.k then [e.k, e.p / 65536, e.p / 256 % 256, e.p % 256, 0] else [e.k, e.c, e.t, e.r, e.m]
def wrs (es : List Ent) : List Int := es.flatMap Ent.wr

theorem wr_length (e : Ent) : e.wr.length = 5 := by unfold Ent.wr; split <;> rfl
theorem wrs_nil : wrs [] = [] := rfl
theorem wrs_cons (e : Ent) (es : List Ent) : wrs (e :: es) = e.wr ++ wrs es := rfl
theorem wrs_append (a b : List Ent) : wrs (a ++ b) = wrs a ++ wrs b := by simp [wrs]
theorem wrs_length (es : List Ent) : (wrs es).length = 5 * es.length := by
  induction es with
  | nil => rfl
  | cons e r ih => rw [wrs_cons, List.length_append, wr_length, ih, List.length_cons]; omega
theorem wrs_snoc (a : List Ent) (e : Ent) : wrs (a ++ [e]) = wrs a ++ e.wr := by rw [wrs_append]; simp [wrs]

/-- what an entry that may be looks like -/
theorem ok_cases {k c t r m p : Int} (h : (⟨k, c, t, r, m, p⟩ : Ent).ok = true) :
    (k = 3 ∧ (1 ≤ t ∧ t ≤ 250 ∧ 0 ≤ r ∧ r ≤ 250) ∧ (1 ≤ m ∧ m ≤ 4) ∧ (1 ≤ c ∧ c ≤ 8) ∧ p = 0) ∨
    ((k = 2 ∨ k = 4 ∨ k = 5 ∨ k = 6) ∧ (1 ≤ c ∧ c ≤ 8) ∧ t = 0 ∧ r = 0 ∧ m = 0 ∧ p = 0) ∨
    ((k = 0 ∨ k = 1) ∧ c = 0 ∧ t = 0 ∧ r = 0 ∧ m = 0 ∧ p = 0) ∨
    ((k = 7 ∨ k = 8 ∨ k = 9) ∧ (0 ≤ p ∧ p < 16777216) ∧ c = 0 ∧ t = 0 ∧ r = 0 ∧ m = 0) := by
  unfold Ent.ok entB at h
  simp only at h
  by_cases h3 : k = 3
  · rw [if_pos h3] at h; have := of_decide_eq_true h; exact .inl ⟨h3, this⟩
  · rw [if_neg h3] at h
    by_cases h4 : k = 2 ∨ k = 4 ∨ k = 5 ∨ k = 6
    · rw [if_pos h4] at h; have := of_decide_eq_true h; exact .inr (.inl ⟨h4, this⟩)
    · rw [if_neg h4] at h
      by_cases h5 : k = 0 ∨ k = 1
      · rw [if_pos h5] at h; have := of_decide_eq_true h; exact .inr (.inr (.inl ⟨h5, this⟩))
      · rw [if_neg h5] at h
        by_cases h6 : k = 7 ∨ k = 8 ∨ k = 9
        · rw [if_pos h6] at h; have := of_decide_eq_true h; exact .inr (.inr (.inr ⟨h6, this⟩))
        · rw [if_neg h6] at h; cases h

theorem wr_range {e : Ent} (h : e.ok = true) : ∀ i, 0 ≤ e.wr.getD i 0 ∧ e.wr.getD i 0 ≤ 255 := by
  obtain ⟨k, c, t, r, m, p⟩ := e
  intro i
  have hc := ok_cases h
  unfold Ent.wr
  simp only
  by_cases h7 : 7 ≤ k
  · rw [if_pos h7]
    match i with
    | 0 => simp; omega
    | 1 => simp; omega
    | 2 => simp; omega
    | 3 => simp; omega
    | 4 => simp
    | i + 5 => simp
  · rw [if_neg h7]
    match i with
    | 0 => simp; omega
    | 1 => simp; omega
    | 2 => simp; omega
    | 3 => simp; omega
    | 4 => simp; omega
    | i + 5 => simp

theorem wrs_range {es : List Ent} (h : ∀ e ∈ es, e.ok = true) : ∀ i, 0 ≤ (wrs es).getD i 0 ∧ (wrs es).getD i 0 ≤ 255 := by
  induction es with
  | nil => intro i; simp [wrs]
  | cons e r ih =>
    intro i
    rw [wrs_cons]
    rcases Nat.lt_or_ge i e.wr.length with hi | hi
    · rw [getD_app_left _ _ _ hi]; exact wr_range (h e (List.mem_cons_self ..)) i
    · rw [getD_app_right _ _ _ hi]; exact ih (fun x hx => h x (List.mem_cons_of_mem _ hx)) _

theorem rd_wr {e : Ent} (h : e.ok = true) : entAt e.wr 0 = e := by
  obtain ⟨k, c, t, r, m, p⟩ := e
  have hc := ok_cases h
  clear h
  unfold entAt Ent.wr
  simp only
  by_cases h7 : 7 ≤ k
  · rw [if_pos h7]
    simp only [List.getD_cons_zero, List.getD_cons_succ, Nat.mul_zero, Nat.zero_add]
    unfold rdF
    rw [if_neg (by omega), if_neg (by omega), if_neg (by omega), if_pos (by omega)]
    simp only [Ent.mk.injEq, true_and]
    omega
  · rw [if_neg h7]
    simp only [List.getD_cons_zero, List.getD_cons_succ, Nat.mul_zero, Nat.zero_add]
    unfold rdF
    rcases hc with hc | hc | hc | hc
    · rw [if_neg (by omega), if_neg (by omega), if_pos (by omega)]
      simp only [Ent.mk.injEq, true_and]; omega
    · rw [if_neg (by omega), if_pos (by omega)]
      simp only [Ent.mk.injEq, true_and]; omega
    · by_cases h1 : k = 1
      · rw [if_pos (by omega)]
        simp only [Ent.mk.injEq]; omega
      · rw [if_neg (by omega), if_neg (by omega), if_neg (by omega), if_neg (by omega)]
        simp only [Ent.none, Ent.mk.injEq]; omega
    · omega

theorem parsed_wr {e : Ent} (h : e.ok = true) : parsed e.wr = [e] := by
  unfold parsed
  rw [wr_length]
  simp only [upto, List.range_one, List.map_cons, List.map_nil, show 5 / 5 = 1 from rfl, show 5 % 5 = 0 from rfl, if_pos, List.append_nil]
  rw [rd_wr h]

/-- the entries of the bytes of entries that may be -/
theorem parsed_wrs {es : List Ent} (h : ∀ e ∈ es, e.ok = true) : parsed (wrs es) = es := by
  induction es with
  | nil => rfl
  | cons e r ih =>
    rw [wrs_cons, parsed_append _ _ (by rw [wr_length]), parsed_wr (h e (List.mem_cons_self ..)), ih (fun x hx => h x (List.mem_cons_of_mem _ hx))]; rfl

theorem rdF_ok (a b c d e : Int) (hb : 0 ≤ b ∧ b ≤ 255) (hc : 0 ≤ c ∧ c ≤ 255) (hd : 0 ≤ d ∧ d ≤ 255) : (rdF a b c d e).ok = true := by
  unfold rdF
  split
  · rfl
  · split
    · rename_i h; unfold Ent.ok entB; simp only; rw [if_neg (by omega), if_pos h.1]; exact decide_eq_true ⟨h.2.1, by simp⟩
    · split
      · rename_i h; unfold Ent.ok entB; simp only [if_true]; exact decide_eq_true ⟨h.2.2.1, h.2.2.2, h.2.1, trivial⟩
      · split
        · rename_i h; unfold Ent.ok entB; simp only; rw [if_neg (by omega), if_neg (by omega), if_neg (by omega), if_pos (by omega)]; exact decide_eq_true ⟨by omega, by simp⟩
        · rfl

/-- what was parsed may be -/
theorem parsed_ok {bs : List Int} (h : ∀ i, 0 ≤ bs.getD i 0 ∧ bs.getD i 0 ≤ 255) : ∀ e ∈ parsed bs, e.ok = true := by
  intro e he
  unfold parsed upto at he
  rcases List.mem_append.1 he with h1 | h1
  · obtain ⟨j, _, rfl⟩ := List.mem_map.1 h1
    exact rdF_ok _ _ _ _ _ (h _) (h _) (h _)
  · split at h1
    · simp at h1
    · simp at h1; subst h1; rfl
end Go.Proofs.YtkmmhdghkbleaaaDoor

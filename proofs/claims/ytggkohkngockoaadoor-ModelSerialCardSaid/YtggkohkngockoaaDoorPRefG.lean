/-
  The document's Check of chapter 20 and the model's answer are the same; what holds on a prefix that may be. No conditions.
-/
import Derived.Test.YtggkohkngockoaaDoorPEq
import Derived.Test.YtggkohkngockoaaDoorPPlay
namespace Go.Proofs.YtggkohkngockoaaDoor
set_option linter.unusedVariables false

def GoodR (l : List Ev) (k : Nat) : Prop := ∀ j, j < k → nextR (l.take j) (l.getD j Ev.none) = 0
theorem form_of_next {l : List Ev} {e : Ev} (h : nextR l e = 0) : formB e = true := by
  cases hf : formB e with
  | true => rfl
  | false => unfold nextR at h; rw [if_pos hf] at h; omega
theorem form_kind {e : Ev} (h : formB e = true) : 1 ≤ e.kind ∧ e.kind ≤ 8 := by
  unfold formB at h
  refine Decidable.byContradiction fun hc => ?_
  have h1 : ¬ e.kind = 1 := by omega
  have h2 : ¬ e.kind = 2 := by omega
  have h3 : ¬ e.kind = 3 := by omega
  have h4 : ¬ e.kind = 4 := by omega
  have h5 : ¬ e.kind = 5 := by omega
  have h6 : ¬ e.kind = 6 := by omega
  have h7 : ¬ e.kind = 7 := by omega
  have h8 : ¬ e.kind = 8 := by omega
  simp [h1, h2, h3, h4, h5, h6, h7, h8] at h
theorem form_mode {e : Ev} (h : formB e = true) (hk : e.kind = 2 ∨ e.kind = 3) : 1 ≤ e.mode ∧ e.mode ≤ 4 := by
  unfold formB at h
  rw [if_neg (by omega), if_pos hk] at h
  simp at h
  omega
theorem of_mode_in (l : List Ev) (t : Int) (h : ∀ e ∈ l, formB e = true) : 0 ≤ (ofR l t).mode ∧ (ofR l t).mode ≤ 4 := by
  refine snoc_all (P := fun l => (∀ e ∈ l, formB e = true) → 0 ≤ (ofR l t).mode ∧ (ofR l t).mode ≤ 4) (fun _ => by simp [ofR, rtx0]) (fun l a ih h => ?_) l h
  have i := ih (fun e he => h e (by simp [he]))
  have ha := h a (by simp)
  rw [of_snoc]
  unfold ofStep
  split
  · exact i
  · split
    · exact i
    · split
      · have := form_mode ha (by omega); simp; omega
      · split
        · simp
        · split
          · exact i
          · split
            · exact i
            · split <;> exact i
theorem mode_in (l : List Ev) (t a b : Int) (h : ∀ e ∈ l, formB e = true) : 0 ≤ modeR l t a b ∧ modeR l t a b ≤ 4 := by
  refine snoc_all (P := fun l => (∀ e ∈ l, formB e = true) → 0 ≤ modeR l t a b ∧ modeR l t a b ≤ 4) (fun _ => by simp [modeR]) (fun l e ih h => ?_) l h
  have i := ih (fun e he => h e (by simp [he]))
  have ha := h e (by simp)
  rw [mode_snoc]
  unfold modeStep
  split
  · have := form_mode ha (by omega); omega
  · exact i
theorem good_ok {l : List Ev} {k : Nat} (h : GoodR l k) (hk : k ≤ l.length) : okF start (l.take k) 0 = true ∧ Op2 (after start (l.take k) 0) ∧ (after start (l.take k) 0).all.length ≤ k := by
  induction k with
  | zero => exact ⟨rfl, op2_start, by simp [after, start]⟩
  | succ k ih =>
    obtain ⟨a, b, c⟩ := ih (fun j hj => h j (by omega)) (by omega)
    have hl : (l.take k).length = k := by rw [List.length_take]; omega
    have h0 : nextE (after start (l.take k) 0) (l.getD k Ev.none) k = 0 := by
      have := next_eq (inv_of a) b (l.getD k Ev.none)
      rw [hl] at this
      rw [this]; exact h k (by omega)
    rw [take_snoc (by omega), ok_append, after_append, a, hl, ok_cons, after_cons, Nat.zero_add]
    refine ⟨by rw [decide_eq_true h0, ok_nil]; rfl, Op2.next b h0, ?_⟩
    show (nextS (after start (l.take k) 0) (l.getD k Ev.none) k).all.length ≤ k + 1
    unfold nextS stepS
    unfold St.over St.put
    repeat' split
    all_goals simp
    all_goals omega
theorem good_form {l : List Ev} {k : Nat} (h : GoodR l k) (hk : k ≤ l.length) : ∀ e ∈ l.take k, formB e = true := by
  intro e he
  obtain ⟨j, hj, rfl⟩ := List.mem_iff_getElem.1 he
  have hj2 : j < k := by rw [List.length_take] at hj; omega
  have := form_of_next (h j hj2)
  rw [List.getD_eq_getElem?_getD, List.getElem?_eq_getElem (by omega)] at this
  rw [List.getElem_take]
  exact this
theorem good_in {l : List Ev} {k : Nat} (h : GoodR l k) (hk : k ≤ l.length) (e : Ev) : (0 ≤ lastR (l.take k) ∧ lastR (l.take k) ≤ k) ∧ (0 ≤ modeR (l.take k) e.tx e.table e.row ∧ modeR (l.take k) e.tx e.table e.row ≤ 4) ∧ (0 ≤ (ofR (l.take k) e.tx).mode ∧ (ofR (l.take k) e.tx).mode ≤ 4) := by
  obtain ⟨a, b, c⟩ := good_ok h hk
  refine ⟨?_, mode_in _ _ _ _ (good_form h hk), of_mode_in _ _ (good_form h hk)⟩
  rw [(inv_of a).last]
  omega
theorem check_from {l : List Ev} (m : Nat) : ∀ i, i + m = l.length → GoodR l i → checkFrom l i m = match playF (after start (l.take i) 0) (l.drop i) i with | .inl _ => (-1, 0) | .inr (p, k) => ((p : Int), k) := by
  induction m with
  | zero =>
    intro i hi h
    rw [List.drop_eq_nil_of_le (by omega)]
    rfl
  | succ m ih =>
    intro i hi h
    obtain ⟨a, b, c⟩ := good_ok h (by omega)
    have hl : (l.take i).length = i := by rw [List.length_take]; omega
    have hd : l.drop i = l.getD i Ev.none :: l.drop (i + 1) := by
      rw [List.getD_eq_getElem?_getD, List.getElem?_eq_getElem (by omega)]
      exact List.drop_eq_getElem_cons (by omega)
    have hn := next_eq (inv_of a) b (l.getD i Ev.none)
    rw [hl] at hn
    rw [hd, play_cons, hn]
    unfold checkFrom
    by_cases h0 : nextR (l.take i) (l.getD i Ev.none) = 0
    · rw [if_pos h0, if_pos h0]
      have hg : GoodR l (i + 1) := fun j hj => by
        rcases Nat.lt_or_ge j i with q | q
        · exact h j q
        · rw [show j = i by omega]; exact h0
      rw [ih (i + 1) (by omega) hg, take_snoc (by omega), after_append, hl, after_cons, Nat.zero_add]
      rfl
    · rw [if_neg h0, if_neg h0]
theorem check_eq (l : List Ev) : checkR l = checkF l := by
  unfold checkR checkF
  rw [check_from l.length 0 (by omega) (fun j hj => absurd hj (Nat.not_lt_zero _))]
  rfl
theorem serial_eq {l : List Ev} (h : okF start l 0 = true) : serialR l = (after start l 0).serial := ((inv_of h).ser).symm
end Go.Proofs.YtggkohkngockoaaDoor

/-
  The order of those that wait, before and behind something that is done: the plain law. No conditions.
-/
import Derived.Test.YtpbgdldaojpjkaaActR
namespace Go.Proofs.Ytpbgdldaojpjkaa
open Go.ChangeShapes Go.WideShapes Go.ChangeAt Go.RowKit
set_option linter.unusedVariables false

/-- each waits once -/
def Uniq (v : List Wt) : Prop := ∀ i j, i < j → j < v.length → (v.getD i Wt.none).x ≠ (v.getD j Wt.none).x

theorem find_uniq {v : List Wt} (h : Uniq v) (i : Nat) (hi : i < v.length) : findW v (v.getD i Wt.none).x = i :=
  findW_eq v _ i hi rfl fun j hj => h j i hj hi

theorem get_ins (v : List Wt) (e : Wt) (p k : Nat) (hp : p ≤ v.length) (hk : k < v.length + 1) : (v.take p ++ [e] ++ v.drop p).getD k Wt.none = if k < p then v.getD k Wt.none else if k = p then e else v.getD (k - 1) Wt.none := by
  have h1 : (v.take p).length = p := by simp; omega
  split
  · rename_i h
    rw [List.append_assoc, getW_left _ _ _ (by omega)]
    simp [List.getD_eq_getElem?_getD, h]
  · split
    · rename_i h1' h
      subst h
      rw [List.append_assoc, getW_right _ _ _ (by omega), h1, getW_left _ _ _ (by simp)]
      simp
    · rename_i h2 h3
      rw [getW_right _ _ _ (by simp; omega)]
      simp only [List.length_append, h1, List.length_singleton, List.getD_eq_getElem?_getD, List.getElem?_drop]
      congr 2; omega
theorem get_era (v : List Wt) (i k : Nat) : (v.eraseIdx i).getD k Wt.none = if k < i then v.getD k Wt.none else v.getD (k + 1) Wt.none := by
  simp only [List.getD_eq_getElem?_getD, List.getElem?_eraseIdx]
  split <;> rfl

structure Ord (was now : List Wt) : Prop where
  mono : ∀ j k, j < k → k < now.length → findW was (now.getD j Wt.none).x < was.length → findW was (now.getD k Wt.none).x < was.length → findW was (now.getD j Wt.none).x ≤ findW was (now.getD k Wt.none).x
  up : ∀ k, 0 < k → k < now.length → (now.getD k Wt.none).u = true → (now.getD (k - 1) Wt.none).u = true
  last : ∀ k, k + 1 < now.length → ¬ findW was (now.getD k Wt.none).x < was.length → (now.getD (k + 1) Wt.none).u ≠ (now.getD k Wt.none).u

theorem right_at {l : Lot} (h : l.right) (k : Nat) (hk : k < l.all.length) : (l.all.getD k Wt.none).u = decide (k < l.a.length) := by
  unfold Lot.all at *
  by_cases ha : k < l.a.length
  · rw [getW_left _ _ _ ha, decide_eq_true ha]
    exact h.1 _ (by rw [List.getD_eq_getElem?_getD, List.getElem?_eq_getElem ha]; exact List.getElem_mem ha)
  · rw [getW_right _ _ _ (by omega), decide_eq_false ha]
    have hb : k - l.a.length < l.b.length := by simp at hk; omega
    exact h.2 _ (by rw [List.getD_eq_getElem?_getD, List.getElem?_eq_getElem hb]; exact List.getElem_mem hb)
theorem up_right {l : Lot} (h : l.right) (k : Nat) (h0 : 0 < k) (hk : k < l.all.length) (hu : (l.all.getD k Wt.none).u = true) : (l.all.getD (k - 1) Wt.none).u = true := by
  rw [right_at h k hk] at hu
  rw [right_at h (k - 1) (by omega)]
  have := of_decide_eq_true hu
  exact decide_eq_true (by omega)

theorem ord_same {l : Lot} (h : l.right) (hq : Uniq l.all) : Ord l.all l.all :=
  ⟨fun j k hjk hk _ _ => by rw [find_uniq hq j (by omega), find_uniq hq k hk]; omega, up_right h, fun k hk hn => by rw [find_uniq hq k (by omega)] at hn; omega⟩

theorem ord_push {l : Lot} {lim : Int} {e : Wt} (h : l.right) (hn : (l.n : Int) ≤ lim) (hq : Uniq l.all) (he : pushE l lim e = 0) : Ord l.all (pushL l lim e).all ∧ Uniq (pushL l lim e).all := by
  obtain ⟨hd, hr, hl⟩ := push_doc l lim e h hn
  have hno : ¬ findW l.all e.x < l.all.length := by
    unfold pushE at he
    by_cases h1 : e.ok = false
    · rw [if_pos h1] at he; omega
    · rw [if_neg h1] at he
      by_cases h2 : l.has e.x = true
      · rw [if_pos h2] at he; omega
      · intro hc; exact h2 (decide_eq_true hc)
  have hall : ∀ j, j < l.all.length → (l.all.getD j Wt.none).x ≠ e.x := fun j hj => findW_before _ _ _ (by omega)
  obtain ⟨p, hp, hpe, hpl⟩ : ∃ p, p ≤ l.all.length ∧ (pushL l lim e).all = l.all.take p ++ [e] ++ l.all.drop p ∧ (p = l.all.length ∨ (p = l.a.length ∧ (pushL l lim e).a.length = p + 1)) := by
    unfold pushL
    rw [if_pos he]
    cases hu : e.u
    · exact ⟨l.all.length, Nat.le_refl _, by simp only [Lot.all, Bool.false_eq_true, if_false, List.take_length, List.drop_length, List.append_nil, List.append_assoc], .inl rfl⟩
    · exact ⟨l.a.length, by simp [Lot.all], by simp [Lot.all], .inr ⟨rfl, by simp⟩⟩
  have hlen : (pushL l lim e).all.length = l.all.length + 1 := by rw [hpe]; simp; omega
  have hg : ∀ k, k < l.all.length + 1 → (pushL l lim e).all.getD k Wt.none = if k < p then l.all.getD k Wt.none else if k = p then e else l.all.getD (k - 1) Wt.none := fun k hk => by rw [hpe]; exact get_ins _ _ _ _ hp hk
  have hf : ∀ k, k < l.all.length + 1 → findW l.all ((pushL l lim e).all.getD k Wt.none).x = if k < p then k else if k = p then l.all.length else k - 1 := fun k hk => by
    rw [hg k hk]
    split
    · exact find_uniq hq k (by omega)
    · split
      · have := findW_le l.all e.x; omega
      · exact find_uniq hq _ (by omega)
  refine ⟨⟨fun j k hjk hk h1 h2 => ?_, up_right hr, fun k hk hnf => ?_⟩, fun i j hij hj => ?_⟩
  · rw [hlen] at hk
    rw [hf j (by omega)] at h1 ⊢
    rw [hf k hk] at h2 ⊢
    (repeat' split at h1) <;> (repeat' split at h2) <;> (repeat' split) <;> omega
  · rw [hlen] at hk
    have hkp : k = p := by
      rw [hf k (by omega)] at hnf
      (repeat' split at hnf) <;> omega
    rcases hpl with hpl | ⟨hpl, hpa⟩
    · omega
    · rw [right_at hr (k + 1) (by omega), right_at hr k (by omega), hpa, hkp, decide_eq_false (by omega), decide_eq_true (by omega)]
      decide
  · rw [hlen] at hj
    rw [hg i (by omega), hg j hj]
    by_cases a1 : i < p
    · rw [if_pos a1]
      by_cases a2 : j < p
      · rw [if_pos a2]; exact hq i j hij (by omega)
      · rw [if_neg a2]
        by_cases a3 : j = p
        · rw [if_pos a3]; exact hall i (by omega)
        · rw [if_neg a3]; exact hq i (j - 1) (by omega) (by omega)
    · rw [if_neg a1, if_neg (show ¬ j < p by omega), if_neg (show ¬ j = p by omega)]
      by_cases a3 : i = p
      · rw [if_pos a3]; exact fun hc => hall (j - 1) (by omega) hc.symm
      · rw [if_neg a3]; exact hq (i - 1) (j - 1) (by omega) (by omega)

theorem ord_leave {l : Lot} (t : Int) (h : l.right) (hq : Uniq l.all) : Ord l.all (leaveL l t).all ∧ Uniq (leaveL l t).all := by
  obtain ⟨hd, hr, hl⟩ := leave_doc l t h
  by_cases hf : findW l.all t < l.all.length
  · have hpe : (leaveL l t).all = l.all.eraseIdx (findW l.all t) := by rw [← hd]; unfold dLeave; rw [if_pos hf]
    generalize findW l.all t = i at *
    have hlen : (leaveL l t).all.length + 1 = l.all.length := by rw [hpe, List.length_eraseIdx, if_pos hf]; omega
    have hg : ∀ k, (leaveL l t).all.getD k Wt.none = if k < i then l.all.getD k Wt.none else l.all.getD (k + 1) Wt.none := fun k => by rw [hpe]; exact get_era _ _ _
    have hf : ∀ k, k + 1 < l.all.length → findW l.all ((leaveL l t).all.getD k Wt.none).x = if k < i then k else k + 1 := fun k hk => by
      rw [hg k]
      split
      · exact find_uniq hq k (by omega)
      · exact find_uniq hq _ (by omega)
    refine ⟨⟨fun j k hjk hk h1 h2 => ?_, up_right hr, fun k hk hnf => ?_⟩, fun a b hab hb => ?_⟩
    · rw [hf j (by omega), hf k (by omega)]
      (repeat' split) <;> omega
    · rw [hf k (by omega)] at hnf
      split at hnf <;> omega
    · rw [hg a, hg b]
      by_cases a1 : a < i
      · rw [if_pos a1]
        by_cases a2 : b < i
        · rw [if_pos a2]; exact hq a b hab (by omega)
        · rw [if_neg a2]; exact hq a (b + 1) (by omega) (by omega)
      · rw [if_neg a1, if_neg (show ¬ b < i by omega)]; exact hq (a + 1) (b + 1) (by omega) (by omega)
  · have hpe : (leaveL l t).all = l.all := by rw [← hd]; unfold dLeave; rw [if_neg hf]
    rw [hpe]
    exact ⟨ord_same h hq, hq⟩

theorem act_ord (l : Lot) (lim k : Int) (e : Wt) (h : l.right) (hn : (l.n : Int) ≤ lim) (hq : Uniq l.all) :
    Ord l.all (actL l lim k e).all ∧ (actL l lim k e).right ∧ Uniq (actL l lim k e).all ∧ ((actL l lim k e).n : Int) ≤ lim := by
  unfold actL
  by_cases k0 : k = 0
  · rw [if_pos k0]
    obtain ⟨_, hr, hl⟩ := push_doc l lim e h hn
    by_cases he : pushE l lim e = 0
    · exact ⟨(ord_push h hn hq he).1, hr, (ord_push h hn hq he).2, hl⟩
    · have : pushL l lim e = l := by unfold pushL; rw [if_neg he]
      rw [this]; exact ⟨ord_same h hq, h, hq, hn⟩
  · rw [if_neg k0]
    have hlv : ∀ t, Ord l.all (leaveL l t).all ∧ (leaveL l t).right ∧ Uniq (leaveL l t).all ∧ ((leaveL l t).n : Int) ≤ lim := fun t => by
      obtain ⟨_, hr, hl⟩ := leave_doc l t h
      exact ⟨(ord_leave t h hq).1, hr, (ord_leave t h hq).2, by omega⟩
    by_cases k1 : k = 1
    · rw [if_pos k1]; exact hlv _
    · rw [if_neg k1]
      by_cases k2 : k = 2
      · rw [if_pos k2]; exact hlv _
      · rw [if_neg k2]; exact ⟨ord_same h hq, h, hq, hn⟩
end Go.Proofs.Ytpbgdldaojpjkaa

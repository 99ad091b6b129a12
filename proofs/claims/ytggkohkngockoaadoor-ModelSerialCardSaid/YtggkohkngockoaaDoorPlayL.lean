/-
  Traces of the model of chapter 20, played piece by piece. No conditions.
-/
import Derived.Test.YtggkohkngockoaaDoorPlayOk
namespace Go.Proofs.YtggkohkngockoaaDoor
set_option linter.unusedVariables false

def after : St → List Ev → Nat → St
  | s, [], _ => s
  | s, e :: l, i => after (nextS s e i) l (i + 1)
/-- may the trace be? -/
def okF (s : St) (l : List Ev) (i : Nat) : Bool := match playF s l i with | .inl _ => true | .inr _ => false

theorem ok_nil (s : St) (i : Nat) : okF s [] i = true := rfl
theorem play_cons (s : St) (e : Ev) (l : List Ev) (i : Nat) : playF s (e :: l) i = if nextE s e i = 0 then playF (nextS s e i) l (i + 1) else .inr (i, nextE s e i) := rfl
theorem after_cons (s : St) (e : Ev) (l : List Ev) (i : Nat) : after s (e :: l) i = after (nextS s e i) l (i + 1) := rfl
theorem ok_cons (s : St) (e : Ev) (l : List Ev) (i : Nat) : okF s (e :: l) i = (decide (nextE s e i = 0) && okF (nextS s e i) l (i + 1)) := by
  unfold okF
  rw [play_cons]
  by_cases h : nextE s e i = 0
  · rw [if_pos h]; simp [h]
  · rw [if_neg h]; simp [h]
theorem play_ok {s : St} {l : List Ev} {i : Nat} (h : okF s l i = true) : playF s l i = .inl (after s l i).serial := by
  induction l generalizing s i with
  | nil => rfl
  | cons e r ih =>
    rw [ok_cons] at h
    simp at h
    rw [play_cons, after_cons, if_pos h.1]
    exact ih h.2
theorem ok_of_inl {s : St} {l : List Ev} {i : Nat} {x : List Int} (h : playF s l i = .inl x) : okF s l i = true := by unfold okF; rw [h]
theorem not_of_inr {s : St} {l : List Ev} {i : Nat} {x : Nat × Int} (h : playF s l i = .inr x) : okF s l i = false := by unfold okF; rw [h]
theorem ok_append (s : St) (a b : List Ev) (i : Nat) : okF s (a ++ b) i = (okF s a i && okF (after s a i) b (i + a.length)) := by
  induction a generalizing s i with
  | nil => simp [ok_nil, after]
  | cons e r ih =>
    rw [List.cons_append, ok_cons, ok_cons, ih, after_cons, List.length_cons, show i + 1 + r.length = i + (r.length + 1) by omega, Bool.and_assoc]
theorem after_append (s : St) (a b : List Ev) (i : Nat) : after s (a ++ b) i = after (after s a i) b (i + a.length) := by
  induction a generalizing s i with
  | nil => rfl
  | cons e r ih => rw [List.cons_append, after_cons, after_cons, ih, List.length_cons, show i + 1 + r.length = i + (r.length + 1) by omega]
theorem play_app {s : St} {a b : List Ev} {i : Nat} (h : okF s a i = true) : playF s (a ++ b) i = playF (after s a i) b (i + a.length) := by
  induction a generalizing s i with
  | nil => rfl
  | cons e r ih =>
    rw [ok_cons] at h
    simp at h
    rw [List.cons_append, play_cons, if_pos h.1, ih h.2, after_cons, List.length_cons, show i + 1 + r.length = i + (r.length + 1) by omega]
theorem play_bad {s : St} {a : List Ev} {i : Nat} {x : Nat × Int} (b : List Ev) (h : playF s a i = .inr x) : playF s (a ++ b) i = .inr x := by
  induction a generalizing s i with
  | nil => cases h
  | cons e r ih =>
    rw [List.cons_append]
    rw [play_cons] at h ⊢
    by_cases h0 : nextE s e i = 0
    · rw [if_pos h0] at h ⊢; exact ih h
    · rw [if_neg h0] at h ⊢; exact h
theorem ok_take {s : St} {l : List Ev} {i : Nat} (h : okF s l i = true) (k : Nat) : okF s (l.take k) i = true := by
  rw [← List.take_append_drop k l, ok_append] at h
  simp at h
  exact h.1
def codeE (k : Int) : Prop := k = 0 ∨ k = 5 ∨ k = 8 ∨ k = 11
theorem code_ite {c : Prop} [Decidable c] {a b : Int} (ha : codeE a) (hb : codeE b) : codeE (if c then a else b) := by split <;> assumption
theorem nextE_in (s : St) (e : Ev) (n : Int) : codeE (nextE s e n) := by
  unfold nextE stepE
  repeat' first | exact .inl rfl | exact .inr (.inl rfl) | exact .inr (.inr (.inl rfl)) | exact .inr (.inr (.inr rfl)) | apply code_ite
/-- the first event that may not come -/
theorem play_at {s : St} {l : List Ev} {i p : Nat} {k : Int} (h : playF s l i = .inr (p, k)) : i ≤ p ∧ p < i + l.length ∧ okF s (l.take (p - i)) i = true ∧ (k = 5 ∨ k = 8 ∨ k = 11) ∧ nextE (after s (l.take (p - i)) i) (l.getD (p - i) Ev.none) p = k := by
  induction l generalizing s i with
  | nil => cases h
  | cons e r ih =>
    rw [play_cons] at h
    by_cases h0 : nextE s e i = 0
    · rw [if_pos h0] at h
      obtain ⟨h1, h2, h3, h4, h5⟩ := ih h
      have e1 : p - i = p - (i + 1) + 1 := by omega
      refine ⟨by omega, by simp; omega, ?_, h4, ?_⟩
      · rw [e1, List.take_succ_cons, ok_cons, h3]; simp [h0]
      · rw [e1, List.take_succ_cons, after_cons, List.getD_cons_succ]; exact h5
    · rw [if_neg h0] at h
      simp at h
      obtain ⟨rfl, rfl⟩ := h
      refine ⟨by omega, by simp, by simp [ok_nil], ?_, by simp [after]⟩
      have := nextE_in s e i
      unfold codeE at this
      omega
theorem stok_after {s : St} {l : List Ev} {i : Nat} (h : StOk s i) (ho : okF s l i = true) : StOk (after s l i) (i + l.length) := by
  induction l generalizing s i with
  | nil => exact h
  | cons e r ih =>
    rw [ok_cons] at ho
    simp at ho
    have := ih (h.next ho.1) ho.2
    rw [after_cons, List.length_cons, show i + (r.length + 1) = i + 1 + r.length by omega]
    exact this
/-- where and why a trace stops: (-1, 0) nowhere -/
def checkF (l : List Ev) : Int × Int := match playF start l 0 with | .inl _ => (-1, 0) | .inr (p, k) => ((p : Int), k)
/-- the longest beginning that may be -/
def rightF (l : List Ev) : List Ev := match playF start l 0 with | .inl _ => l | .inr (p, _) => l.take p
theorem right_ok (l : List Ev) : okF start (rightF l) 0 = true := by
  unfold rightF
  cases h : playF start l 0 with
  | inl x => exact ok_of_inl h
  | inr x => obtain ⟨p, k⟩ := x; have := (play_at h).2.2.1; simpa using this
end Go.Proofs.YtggkohkngockoaaDoor

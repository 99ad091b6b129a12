/-
  Those that wait, in plain terms: a row of them, who is found, who comes and leaves.
-/
import Derived.WalkKit
namespace Go.Proofs.Ytpbgdldaojpjkaa

structure Wt where
  x : Int
  s : Int
  m : Int
  u : Bool

def Wt.none : Wt := ⟨0, 0, 0, false⟩
def Wt.cells (e : Wt) : List Value := [.int .i64 e.x, .int .i64 e.s, .int .i64 e.m, .bool e.u]
def Wt.val (e : Wt) : Value := .agg #[.int .i64 e.x, .int .i64 e.s, .int .i64 e.m, .bool e.u]
def flatW (es : List Wt) : List Value := es.flatMap Wt.cells

theorem flatW_cons (e : Wt) (es : List Wt) : flatW (e :: es) = e.cells ++ flatW es := rfl
theorem flatW_append (a b : List Wt) : flatW (a ++ b) = flatW a ++ flatW b := by simp [flatW]
theorem flatW_one (e : Wt) : flatW [e] = e.cells := by simp [flatW]
theorem flatW_length (es : List Wt) : (flatW es).length = es.length * 4 := by
  induction es with
  | nil => rfl
  | cons e r ih => rw [flatW_cons, List.length_append, ih]; simp [Wt.cells]; omega
theorem cells_oneW (e : Wt) : ∀ u ∈ e.cells, u.oneCell' = true := by simp [Wt.cells, Value.oneCell']
theorem flatW_oneCell (es : List Wt) : ∀ u ∈ flatW es, u.oneCell' = true := by
  intro u hu
  obtain ⟨e, _, h⟩ := List.mem_flatMap.1 hu
  exact cells_oneW e u h
theorem flatW_get (es : List Wt) (i j : Nat) (hi : i < es.length) (hj : j < 4) : (flatW es)[4 * i + j]? = (es.getD i Wt.none).cells[j]? := by
  induction es generalizing i with
  | nil => simp at hi
  | cons e r ih =>
    rw [flatW_cons]
    have hl : e.cells.length = 4 := rfl
    cases i with
    | zero => rw [List.getElem?_append_left (by omega)]; simp
    | succ i =>
      rw [List.getElem?_append_right (by omega), hl, show 4 * (i + 1) + j - 4 = 4 * i + j from by omega, ih i (by simpa using hi)]
      simp

theorem getW_left (a b : List Wt) (i : Nat) (h : i < a.length) : (a ++ b).getD i Wt.none = a.getD i Wt.none := by
  rw [List.getD_eq_getElem?_getD, List.getD_eq_getElem?_getD, List.getElem?_append_left h]
theorem getW_right (a b : List Wt) (i : Nat) (h : a.length ≤ i) : (a ++ b).getD i Wt.none = b.getD (i - a.length) Wt.none := by
  rw [List.getD_eq_getElem?_getD, List.getD_eq_getElem?_getD, List.getElem?_append_right h]

/-- the place of a transaction's; the length: it doesn't wait -/
def findW : List Wt → Int → Nat
  | [], _ => 0
  | e :: r, t => if e.x = t then 0 else findW r t + 1

theorem findW_le (l : List Wt) (t : Int) : findW l t ≤ l.length := by
  induction l with
  | nil => exact Nat.le_refl _
  | cons e r ih => unfold findW; split <;> simp <;> omega
theorem findW_at (l : List Wt) (t : Int) (h : findW l t < l.length) : (l.getD (findW l t) Wt.none).x = t := by
  induction l with
  | nil => simp at h
  | cons e r ih =>
    unfold findW at h ⊢
    by_cases he : e.x = t
    · rw [if_pos he]; exact he
    · rw [if_neg he] at h ⊢
      exact ih (by simpa using h)
theorem findW_before (l : List Wt) (t : Int) (j : Nat) (h : j < findW l t) : (l.getD j Wt.none).x ≠ t := by
  induction l generalizing j with
  | nil => simp [findW] at h
  | cons e r ih =>
    unfold findW at h
    by_cases he : e.x = t
    · rw [if_pos he] at h; omega
    · rw [if_neg he] at h
      cases j with
      | zero => exact he
      | succ j => exact ih j (by omega)
/-- the first one of that number is what is found -/
theorem findW_eq (l : List Wt) (t : Int) (k : Nat) (hk : k < l.length) (hx : (l.getD k Wt.none).x = t) (hb : ∀ j, j < k → (l.getD j Wt.none).x ≠ t) : findW l t = k := by
  rcases Nat.lt_trichotomy (findW l t) k with h | h | h
  · exact absurd (findW_at l t (by omega)) (hb _ h)
  · exact h
  · exact absurd hx (findW_before l t k h)
theorem findW_none (l : List Wt) (t : Int) (hb : ∀ j, j < l.length → (l.getD j Wt.none).x ≠ t) : findW l t = l.length := by
  rcases Nat.lt_or_ge (findW l t) l.length with h | h
  · exact absurd (findW_at l t h) (hb _ h)
  · have := findW_le l t; omega
theorem findW_append (a b : List Wt) (t : Int) : findW (a ++ b) t = if findW a t < a.length then findW a t else a.length + findW b t := by
  induction a with
  | nil => simp [findW]
  | cons e r ih =>
    simp only [List.cons_append, findW]
    by_cases he : e.x = t
    · simp [he]
    · simp only [he, if_false, ih, List.length_cons, Nat.add_lt_add_iff_right]
      split <;> omega

/-- may a waiting one be? -/
def Wt.ok (e : Wt) : Bool := decide ((1 ≤ e.x ∧ e.x ≤ 1048576) ∧ (1 ≤ e.s ∧ e.s ≤ 1048576) ∧ 1 ≤ e.m ∧ e.m ≤ 4)

/-- two lots: those that have a lock, and the others -/
structure Lot where
  a : List Wt
  b : List Wt

def Lot.all (l : Lot) : List Wt := l.a ++ l.b
def Lot.n (l : Lot) : Nat := l.a.length + l.b.length
def Lot.has (l : Lot) (t : Int) : Bool := decide (findW l.all t < l.all.length)
def Lot.right (l : Lot) : Prop := (∀ e ∈ l.a, e.u = true) ∧ ∀ e ∈ l.b, e.u = false

/-- where a transaction's waits: in which lot, and where in it -/
def placeN (l : Lot) (t : Int) : Nat := if findW l.a t < l.a.length then 0 else if findW l.b t < l.b.length then 1 else 0
def placeI (l : Lot) (t : Int) : Nat := if findW l.a t < l.a.length then findW l.a t else if findW l.b t < l.b.length then findW l.b t else 0
def placeB (l : Lot) (t : Int) : Bool := decide (findW l.a t < l.a.length ∨ findW l.b t < l.b.length)

theorem placeB_has (l : Lot) (t : Int) : placeB l t = l.has t := by
  have h1 := findW_le l.a t
  have h2 := findW_le l.b t
  unfold placeB Lot.has Lot.all
  rw [findW_append, List.length_append]
  apply decide_eq_decide.2
  split <;> omega

/-- one comes: an error's number, the lots then -/
def pushE (l : Lot) (lim : Int) (e : Wt) : Int := if e.ok = false then 1 else if l.has e.x then 8 else if (l.n : Int) = lim then 7 else 0
def pushL (l : Lot) (lim : Int) (e : Wt) : Lot := if pushE l lim e = 0 then (if e.u then ⟨l.a ++ [e], l.b⟩ else ⟨l.a, l.b ++ [e]⟩) else l
/-- a transaction's leaves -/
def leaveL (l : Lot) (t : Int) : Lot := if findW l.a t < l.a.length then ⟨l.a.eraseIdx (findW l.a t), l.b⟩ else if findW l.b t < l.b.length then ⟨l.a, l.b.eraseIdx (findW l.b t)⟩ else l
def leaveE (l : Lot) (t : Int) : Int := if l.has t then 0 else 10
def leaveW (l : Lot) (t : Int) : Wt := if l.has t then l.all.getD (findW l.all t) Wt.none else Wt.none

/-- the document's: one list -/
def dPushE (v : List Wt) (lim : Int) (e : Wt) : Int := if e.ok = false then 1 else if findW v e.x < v.length then 8 else if lim ≤ (v.length : Int) then 7 else 0
/-- how far back one that has a lock goes -/
def back : List Wt → Nat → Nat
  | _, 0 => 0
  | v, n + 1 => if (v.getD n Wt.none).u then n + 1 else back v n
def dAt (v : List Wt) (e : Wt) : Nat := if e.u then back v v.length else v.length
def dPush (v : List Wt) (lim : Int) (e : Wt) : List Wt := if dPushE v lim e = 0 then v.take (dAt v e) ++ [e] ++ v.drop (dAt v e) else v
def dLeave (v : List Wt) (t : Int) : List Wt := if findW v t < v.length then v.eraseIdx (findW v t) else v

theorem back_mid (a b : List Wt) (ha : ∀ e ∈ a, e.u = true) (hb : ∀ e ∈ b, e.u = false) (n : Nat) (h1 : a.length ≤ n) (h2 : n ≤ (a ++ b).length) : back (a ++ b) n = a.length := by
  induction n with
  | zero => simp [back]; omega
  | succ n ih =>
    unfold back
    by_cases h : a.length = n + 1
    · have hm : a.getD n Wt.none ∈ a := by
        rw [List.getD_eq_getElem?_getD, List.getElem?_eq_getElem (by omega)]; exact List.getElem_mem _
      rw [getW_left _ _ _ (by omega), ha _ hm, if_pos rfl, h]
    · rw [List.length_append] at h2
      have hm : b.getD (n - a.length) Wt.none ∈ b := by
        rw [List.getD_eq_getElem?_getD, List.getElem?_eq_getElem (by omega)]; exact List.getElem_mem _
      rw [getW_right _ _ _ (by omega), hb _ hm]
      simp only [Bool.false_eq_true, if_false]
      exact ih (by omega) (by rw [List.length_append]; omega)

theorem pushE_doc (l : Lot) (lim : Int) (e : Wt) (hn : (l.n : Int) ≤ lim) : dPushE l.all lim e = pushE l lim e := by
  unfold dPushE pushE Lot.has
  have : l.all.length = l.n := by simp [Lot.all, Lot.n]
  rw [this] at *
  by_cases h1 : e.ok = false
  · rw [if_pos h1, if_pos h1]
  · rw [if_neg h1, if_neg h1]
    by_cases h2 : findW l.all e.x < l.n
    · simp [h2]
    · simp only [h2, if_false, decide_false, Bool.false_eq_true]
      by_cases h3 : lim ≤ (l.n : Int)
      · rw [if_pos h3, if_pos (by omega)]
      · rw [if_neg h3, if_neg (by omega)]

theorem push_doc (l : Lot) (lim : Int) (e : Wt) (hr : l.right) (hn : (l.n : Int) ≤ lim) : dPush l.all lim e = (pushL l lim e).all ∧ (pushL l lim e).right ∧ ((pushL l lim e).n : Int) ≤ lim := by
  have hE := pushE_doc l lim e hn
  unfold dPush pushL
  rw [hE]
  by_cases h0 : pushE l lim e = 0
  · rw [if_pos h0, if_pos h0]
    have hlt : (l.n : Int) < lim := by
      unfold pushE at h0
      split at h0
      · omega
      · split at h0
        · omega
        · split at h0
          · omega
          · omega
    by_cases hu : e.u = true
    · rw [if_pos hu]
      unfold dAt
      rw [if_pos hu]
      unfold Lot.all
      rw [back_mid _ _ hr.1 hr.2 _ (by simp) (Nat.le_refl _)]
      refine ⟨by simp, ⟨?_, hr.2⟩, ?_⟩
      · intro x hx
        rcases List.mem_append.1 hx with h | h
        · exact hr.1 x h
        · simp at h; subst h; exact hu
      · simp [Lot.n] at hlt ⊢; omega
    · rw [if_neg hu]
      unfold dAt
      rw [if_neg hu]
      unfold Lot.all
      refine ⟨by rw [List.take_of_length_le (Nat.le_refl _), List.drop_of_length_le (Nat.le_refl _)]; simp, ⟨hr.1, ?_⟩, ?_⟩
      · intro x hx
        rcases List.mem_append.1 hx with h | h
        · exact hr.2 x h
        · simp at h; subst h; simpa using hu
      · simp [Lot.n] at hlt ⊢; omega
  · rw [if_neg h0, if_neg h0]
    exact ⟨rfl, hr, hn⟩

theorem leave_doc (l : Lot) (t : Int) (hr : l.right) : dLeave l.all t = (leaveL l t).all ∧ (leaveL l t).right ∧ (leaveL l t).n ≤ l.n := by
  have h1 := findW_le l.a t
  have h2 := findW_le l.b t
  unfold dLeave leaveL Lot.all
  rw [findW_append, List.length_append]
  by_cases ha : findW l.a t < l.a.length
  · rw [if_pos ha, if_pos ha, if_pos (by omega)]
    refine ⟨?_, ⟨fun x hx => hr.1 x (List.mem_of_mem_eraseIdx hx), hr.2⟩, ?_⟩
    · rw [List.eraseIdx_append_of_lt_length ha]
    · simp only [Lot.n, List.length_eraseIdx]; split <;> omega
  · rw [if_neg ha, if_neg ha]
    by_cases hb : findW l.b t < l.b.length
    · rw [if_pos hb, if_pos (by omega)]
      refine ⟨?_, ⟨hr.1, fun x hx => hr.2 x (List.mem_of_mem_eraseIdx hx)⟩, ?_⟩
      · rw [List.eraseIdx_append_of_length_le (by omega)]
        simp
      · simp only [Lot.n, List.length_eraseIdx]; split <;> omega
    · rw [if_neg hb, if_neg (by omega)]
      exact ⟨rfl, hr, Nat.le_refl _⟩
end Go.Proofs.Ytpbgdldaojpjkaa

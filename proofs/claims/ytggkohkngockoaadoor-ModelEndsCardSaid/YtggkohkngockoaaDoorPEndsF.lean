/-
  Behind a trace that may be, each transaction that isn't decided is aborted: the plain law. No conditions.
-/
import Derived.Test.YtggkohkngockoaaDoorPlayL
namespace Go.Proofs.YtggkohkngockoaaDoor
set_option linter.unusedVariables false

def lastStepM (m : Int) (e : Ev) : Int := if e.kind = 1 then max m e.tx else m
def lastM (l : List Ev) : Int := l.foldl lastStepM 0
theorem lastM_snoc (l : List Ev) (e : Ev) : lastM (l ++ [e]) = lastStepM (lastM l) e := by simp [lastM]
theorem next_len {s : St} {e : Ev} {n : Int} (h0 : nextE s e n = 0) : ((nextS s e n).all.length : Int) = lastStepM s.all.length e := by
  have hf := next_form h0
  unfold lastStepM
  by_cases k1 : e.kind = 1
  · have ht : e.tx = s.all.length + 1 := by
      unfold nextE at h0
      rw [if_neg (by rw [hf]; decide), if_pos k1] at h0
      by_cases hc : ¬ e.tx = s.all.length + 1 ∨ s.dead e.client.toNat = true ∨ s.now e.client.toNat = true
      · rw [if_pos hc] at h0; exact absurd h0 (by decide)
      · exact Classical.byContradiction fun h => hc (.inl h)
    unfold nextS
    rw [if_pos k1, if_pos k1]
    simp only [List.length_append, List.length_singleton]
    omega
  · rw [if_neg k1]
    unfold nextS
    rw [if_neg k1]
    by_cases k8 : e.kind = 8
    · rw [if_pos k8]
    · rw [if_neg k8]
      unfold stepS St.put St.over
      repeat' first | split | simp
theorem last_fold {l : List Ev} {s : St} {i : Nat} {m : Int} (hm : m = s.all.length) (ho : okF s l i = true) : l.foldl lastStepM m = (after s l i).all.length := by
  induction l generalizing s i m with
  | nil => exact hm
  | cons e r ih =>
    rw [ok_cons] at ho
    simp at ho
    rw [List.foldl_cons, after_cons]
    exact ih (by rw [next_len ho.1, hm]) ho.2
theorem last_all {l : List Ev} (ho : okF start l 0 = true) : lastM l = (after start l 0).all.length := last_fold rfl ho

/-- an abort -/
def abt (t c : Int) : Ev := ⟨7, 0, t, 0, 0, 0, c⟩
theorem abt_form {t c : Int} (ht : 1 ≤ t) (hc : 1 ≤ c ∧ c ≤ 5) : formB (abt t c) = true := by
  unfold formB abt; simp; omega
theorem abt_E {s : St} {t c n : Int} (ht : 1 ≤ t) (hc : 1 ≤ c ∧ c ≤ 5) : nextE s (abt t c) n = if (s.all.length : Int) < t ∨ (s.tx t).state = 3 then 11 else 0 := by
  unfold nextE
  rw [if_neg (by rw [abt_form ht hc]; decide), if_neg (by simp [abt]), if_neg (by simp [abt])]
  rfl
theorem abt_S {s : St} {t c n : Int} : nextS s (abt t c) n = s.over t (s.tx t) := by
  unfold nextS stepS
  simp [abt]
/-- the last event -/
theorem play_last {l : List Ev} {e : Ev} (ho : okF start l 0 = true) (h : ¬ nextE (after start l 0) e l.length = 0) : playF start (l ++ [e]) 0 = .inr (l.length, nextE (after start l 0) e l.length) := by
  rw [play_app ho, Nat.zero_add, play_cons, if_neg h]
theorem ok_last {l : List Ev} {e : Ev} (ho : okF start l 0 = true) (h : nextE (after start l 0) e l.length = 0) : okF start (l ++ [e]) 0 = true ∧ after start (l ++ [e]) 0 = nextS (after start l 0) e l.length := by
  rw [ok_append, ho, after_append, Nat.zero_add, ok_cons, ok_nil, decide_eq_true h]
  exact ⟨rfl, rfl⟩

/-- those from place q on are decided; what was committed stays -/
structure EndsAt (r l : List Ev) (q : Nat) : Prop where
  ok : okF start l 0 = true
  ser : (after start l 0).serial = (after start r 0).serial
  len : (after start l 0).all.length = (after start r 0).all.length
  dec : ∀ i x, q ≤ i → (after start l 0).all[i]? = some x → x.state = 3
  small : l.length + q ≤ r.length + (after start r 0).all.length
  qle : q ≤ (after start r 0).all.length
theorem ends_start {r : List Ev} (ho : okF start r 0 = true) : EndsAt r r (after start r 0).all.length :=
  ⟨ho, rfl, rfl, (fun i x hi hx => by rw [List.getElem?_eq_none hi] at hx; cases hx), Nat.le_refl _, Nat.le_refl _⟩
theorem tx_of {s : St} {i : Nat} {x : Tx} (h : s.all[i]? = some x) : s.tx ((i : Int) + 1) = x := by
  unfold St.tx
  rw [List.getD_eq_getElem?_getD, show ((i : Int) + 1 - 1).toNat = i by omega, h]
  rfl
theorem EndsAt.skip {r l : List Ev} {q : Nat} (h : EndsAt r l (q + 1)) (h3 : ((after start l 0).tx ((q : Int) + 1)).state = 3) : EndsAt r l q :=
  ⟨h.ok, h.ser, h.len, (fun i x hi hx => by
    rcases Nat.lt_or_ge q i with h1 | h1
    · exact h.dec i x h1 hx
    · have : i = q := by omega
      subst this
      rw [tx_of hx] at h3; exact h3), by have := h.small; omega, by have := h.qle; omega⟩
theorem EndsAt.more {r l : List Ev} {q : Nat} {c : Int} (h : EndsAt r l (q + 1)) (hc : 1 ≤ c ∧ c ≤ 5) (h3 : ¬ ((after start l 0).tx ((q : Int) + 1)).state = 3) : okF start (l ++ [abt ((q : Int) + 1) c]) 0 = true ∧ EndsAt r (l ++ [abt ((q : Int) + 1) c]) q := by
  have hq := h.qle
  have hl := h.len
  have h0 : nextE (after start l 0) (abt ((q : Int) + 1) c) l.length = 0 := by
    rw [abt_E (by omega) hc, if_neg]
    rintro (h | h)
    · omega
    · exact h3 h
  obtain ⟨o1, o2⟩ := ok_last h.ok h0
  refine ⟨o1, o1, ?_, ?_, fun i x hi hx => ?_, by rw [List.length_append, List.length_singleton]; have := h.small; omega, by omega⟩
  · rw [o2, abt_S]; exact h.ser
  · rw [o2, abt_S]
    simp only [St.over, List.length_set]
    exact hl
  · rw [o2, abt_S] at hx
    simp only [St.over, List.getElem?_set] at hx
    rw [show ((q : Int) + 1 - 1).toNat = q by omega] at hx
    split at hx
    · split at hx
      · cases hx; rfl
      · cases hx
    · exact h.dec i x (by omega) hx
theorem EndsAt.skip_play {r l : List Ev} {q : Nat} {c : Int} (h : EndsAt r l (q + 1)) (hc : 1 ≤ c ∧ c ≤ 5) (h3 : ((after start l 0).tx ((q : Int) + 1)).state = 3) : playF start (l ++ [abt ((q : Int) + 1) c]) 0 = .inr (l.length, 11) := by
  have h1 : nextE (after start l 0) (abt ((q : Int) + 1) c) l.length = 11 := by rw [abt_E (by omega) hc, if_pos (.inr h3)]
  rw [play_last h.ok (by rw [h1]; decide), h1]
theorem EndsAt.end_ {r l : List Ev} {e : Ev} (h : EndsAt r l 0) (h0 : okF start (l ++ [e]) 0 = true) : e.kind = 1 ∨ e.kind = 8 := by
  have hn : nextE (after start l 0) e l.length = 0 := by
    rw [ok_append, h.ok, Nat.zero_add, ok_cons] at h0
    simp at h0
    exact h0.1
  rcases Classical.em (e.kind = 1) with h1 | h1
  · exact .inl h1
  rcases Classical.em (e.kind = 8) with h8 | h8
  · exact .inr h8
  obtain ⟨_, a, b, c, _⟩ := next_tx hn h1 h8
  have hx : (after start l 0).all[(e.tx - 1).toNat]? = some ((after start l 0).tx e.tx) := by
    unfold St.tx
    rw [List.getD_eq_getElem?_getD, List.getElem?_eq_getElem (by omega)]; rfl
  exact absurd (h.dec _ _ (Nat.zero_le _) hx) c
end Go.Proofs.YtggkohkngockoaaDoor

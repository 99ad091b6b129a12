/-
  catchboltlaw20.ModelSerial, plain: of committed transactions that clash the one committed first was so ahead of the other one's getting it. No conditions.
-/
import Derived.Test.YtggkohkngockoaaDoorPRefG
import Derived.Test.YtggkohkngockoaaDoorPRef1
namespace Go.Proofs.YtggkohkngockoaaDoor
set_option linter.unusedVariables false

theorem tog_comm (a b : Int) : togB a b = togB b a := by
  unfold togB
  by_cases h : 0 ≤ a ∧ a ≤ 4 ∧ 0 ≤ b ∧ b ≤ 4
  · rw [if_pos h, if_pos (by omega)]
    have ha : a = 0 ∨ a = 1 ∨ a = 2 ∨ a = 3 ∨ a = 4 := by omega
    have hb : b = 0 ∨ b = 1 ∨ b = 2 ∨ b = 3 ∨ b = 4 := by omega
    rcases ha with rfl | rfl | rfl | rfl | rfl <;> rcases hb with rfl | rfl | rfl | rfl | rfl <;> rfl
  · rw [if_neg h, if_neg (by omega)]
theorem endFrom_app (t : Int) (p r : List Ev) (i : Nat) (h : endFrom t p i = i + p.length) : i + p.length ≤ endFrom t (p ++ r) i := by
  induction p generalizing i with
  | nil => simpa using (endFrom_ge t r i).1
  | cons a p ih =>
    rw [List.cons_append]
    unfold endFrom at h ⊢
    by_cases ha : a.kind = 6 ∧ a.tx = t
    · rw [if_pos ha] at h; simp at h
    · rw [if_neg ha] at h ⊢
      have := ih (i + 1) (by rw [h, List.length_cons]; omega)
      rw [List.length_cons]; omega
theorem end_app {t : Int} {p : List Ev} (r : List Ev) (h : endR p t = p.length) : p.length ≤ endR (p ++ r) t := by
  have := endFrom_app t p r 0 (by unfold endR at h; omega)
  unfold endR; omega
theorem ok_good {l : List Ev} (h : okF start l 0 = true) {k : Nat} (hk : k ≤ l.length) : GoodR l k := by
  induction k with
  | zero => exact fun j hj => absurd hj (Nat.not_lt_zero _)
  | succ k ih =>
    have hg := ih (by omega)
    intro j hj
    rcases Nat.lt_or_ge j k with q | q
    · exact hg j q
    · obtain rfl : j = k := by omega
      obtain ⟨a, b, c⟩ := good_ok hg (by omega)
      have hl : (l.take j).length = j := by rw [List.length_take]; omega
      have h1 := ok_take h (j + 1)
      rw [take_snoc (by omega), ok_append, hl, ok_cons] at h1
      rw [Bool.and_eq_true, Bool.and_eq_true] at h1
      have h2 := of_decide_eq_true h1.2.1
      rw [Nat.zero_add] at h2
      have h3 := next_eq (inv_of a) b (l.getD j Ev.none)
      rw [hl] at h3
      rw [← h3]; exact h2
theorem got_before {l : List Ev} (ho : okF start l 0 = true) {a : Nat} (ha : a < l.length) (h3 : (l.getD a Ev.none).kind = 3) (he : endR l (l.getD a Ev.none).tx < l.length) : a < endR l (l.getD a Ev.none).tx := by
  have hg := ok_good ho (show a ≤ l.length by omega)
  have h0 := ok_good ho (show a + 1 ≤ l.length by omega) a (by omega)
  have hl : (l.take a).length = a := by rw [List.length_take]; omega
  generalize hE : l.getD a Ev.none = E at *
  have hen := end_le E.tx (l.take a)
  rw [hl] at hen
  rcases Nat.lt_or_ge (endR (l.take a) E.tx) a with q | q
  · exfalso
    obtain ⟨x, y, _⟩ := good_ok hg (by omega)
    have hi := inv_of x
    have hs : (ofR (l.take a) E.tx).state = 1 := by
      unfold nextR at h0
      split at h0
      · omega
      · simp only [h3] at h0
        simp at h0
        exact h0.1
    have hin : 1 ≤ E.tx ∧ E.tx ≤ (after start (l.take a) 0).all.length := by
      refine Decidable.byContradiction fun hc => ?_
      have := of_none (l.take a) E.tx (fun e he => by
        by_cases h8 : e.kind = 8
        · exact .inl h8
        · right
          have := hi.non e he h8
          omega)
      rw [this] at hs
      simp [rtx0] at hs
    rcases ser_end hi hin.1 hin.2 with ⟨m, _, _⟩ | ⟨_, m⟩
    · obtain ⟨i, z, hz, e1, e2⟩ := hi.ser3 _ m
      have := (hi.tx i z hz).st
      rw [← e1] at this
      omega
    · rw [hl] at m; omega
  · have hq : endR (l.take a) E.tx = a := by omega
    have hm := endR_miss ha hq (by rw [hE, h3]; omega)
    have hl2 : (l.take (a + 1)).length = a + 1 := by rw [List.length_take]; omega
    have := end_app (l.drop (a + 1)) (by rw [hl2]; exact hm)
    rw [List.take_append_drop, hl2] at this
    omega
/-- the law: of two committed ones the first was committed earlier, and ahead of what the other one got against it -/
theorem serial_law {l : List Ev} (ho : okF start l 0 = true) {i k : Nat} (hik : i < k) (hk : k < (serialR l).length) :
    endR l ((serialR l).getD i 0) < endR l ((serialR l).getD k 0) ∧ endR l ((serialR l).getD k 0) < l.length ∧
    ∀ a b, a < l.length → b < l.length → (l.getD a Ev.none).kind = 3 → (l.getD b Ev.none).kind = 3 → (l.getD a Ev.none).tx = (serialR l).getD i 0 → (l.getD b Ev.none).tx = (serialR l).getD k 0 → (l.getD a Ev.none).table = (l.getD b Ev.none).table → (l.getD a Ev.none).row = (l.getD b Ev.none).row → togB (l.getD a Ev.none).mode (l.getD b Ev.none).mode = false → ¬ b < endR l ((serialR l).getD i 0) := by
  have hi := inv_of ho
  have hse := hi.ser
  have hpw := List.pairwise_iff_getElem.1 hi.pair i k (by rw [hse]; omega) (by rw [hse]; exact hk) hik
  have gi : (serialR l).getD i 0 = (after start l 0).serial[i]'(by rw [hse]; omega) := by
    rw [List.getD_eq_getElem?_getD, List.getElem?_eq_getElem (by omega)]; simp [hse]
  have gk : (serialR l).getD k 0 = (after start l 0).serial[k]'(by rw [hse]; exact hk) := by
    rw [List.getD_eq_getElem?_getD, List.getElem?_eq_getElem hk]; simp [hse]
  rw [gi, gk]
  have mi := List.getElem_mem (l := (after start l 0).serial) (n := i) (by rw [hse]; omega)
  have mk := List.getElem_mem (l := (after start l 0).serial) (n := k) (by rw [hse]; exact hk)
  generalize (after start l 0).serial[i]'(by rw [hse]; omega) = ti at *
  generalize (after start l 0).serial[k]'(by rw [hse]; exact hk) = tk at *
  obtain ⟨i1, i2⟩ := ser_in hi mi
  obtain ⟨k1, k2⟩ := ser_in hi mk
  have fi : ((after start l 0).tx ti).fin = endR l ti ∧ endR l ti < l.length := by
    rcases ser_end hi i1 i2 with ⟨_, f, g⟩ | ⟨f, _⟩
    · exact ⟨f, g⟩
    · exact absurd mi f
  have fk : ((after start l 0).tx tk).fin = endR l tk ∧ endR l tk < l.length := by
    rcases ser_end hi k1 k2 with ⟨_, f, g⟩ | ⟨f, _⟩
    · exact ⟨f, g⟩
    · exact absurd mk f
  have hlt : endR l ti < endR l tk := by
    have := hpw.1
    rw [fi.1, fk.1] at this
    omega
  refine ⟨hlt, fk.2, ?_⟩
  intro a b ha hb ka kb ta tb et er htog hbe
  have hcl := hpw.2
  have hab := got_before ho ha ka (by rw [ta]; exact fi.2)
  rw [ta] at hab
  unfold clashB at hcl
  rw [List.any_eq_false] at hcl
  have gx := (got_ev hi k1 k2 ⟨(l.getD b Ev.none).table, (l.getD b Ev.none).row, (l.getD b Ev.none).mode, (b : Int)⟩).2 ⟨b, _, of_getD hb, kb, tb, rfl⟩
  have gy := (got_ev hi i1 i2 ⟨(l.getD a Ev.none).table, (l.getD a Ev.none).row, (l.getD a Ev.none).mode, (a : Int)⟩).2 ⟨a, _, of_getD ha, ka, ta, rfl⟩
  have c1 := hcl _ gx
  rw [Bool.not_eq_true, List.any_eq_false] at c1
  have c2 := c1 _ gy
  apply c2
  simp only [Bool.and_eq_true, decide_eq_true_eq]
  refine ⟨⟨⟨⟨et.symm, er.symm⟩, ?_⟩, ?_⟩, ?_⟩
  · rw [show togB (l.getD b Ev.none).mode (l.getD a Ev.none).mode = togB (l.getD a Ev.none).mode (l.getD b Ev.none).mode from tog_comm _ _, htog]; rfl
  · rw [fi.1]; omega
  · rw [fk.1]; omega
end Go.Proofs.YtggkohkngockoaaDoor

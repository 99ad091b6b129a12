/-
  What holds of the model of chapter 20 all along. No conditions.
-/
import Derived.Test.YtggkohkngockoaaDoorPlayM
namespace Go.Proofs.YtggkohkngockoaaDoor
set_option linter.unusedVariables false

structure TxOk (x : Tx) (n : Nat) : Prop where
  client : 1 ≤ x.client ∧ x.client ≤ 8
  mode : 0 ≤ x.mode ∧ x.mode ≤ 4
  got : GotOk x.got
  len : x.got.length ≤ n
structure StOk (s : St) (n : Nat) : Prop where
  tx : ∀ (i : Nat) (x : Tx), s.all[i]? = some x → TxOk x n
  len : s.all.length ≤ n
  slen : s.serial.length ≤ n
  ser : ∀ k ∈ s.serial, 1 ≤ k ∧ k ≤ s.all.length
theorem TxOk.up {x : Tx} {n : Nat} (h : TxOk x n) : TxOk x (n + 1) := ⟨h.client, h.mode, h.got, by have := h.len; omega⟩
theorem stok_start : StOk start 0 := ⟨fun i x h => by simp [start] at h, by simp [start], by simp [start], fun k h => by simp [start] at h⟩

theorem StOk.setx {s : St} {n : Nat} (h : StOk s n) (i : Nat) (x : Tx) (hx : TxOk x (n + 1)) (d nw : Nat → Bool) (ser : List Int) (hs : ser.length ≤ n + 1) (hm : ∀ k ∈ ser, 1 ≤ k ∧ k ≤ s.all.length) : StOk ⟨s.all.set i x, d, nw, ser⟩ (n + 1) := by
  refine ⟨fun j y hy => ?_, by have := h.len; simp; omega, hs, by simpa using hm⟩
  rw [List.getElem?_set] at hy
  split at hy
  · split at hy
    · cases hy; exact hx
    · cases hy
  · exact (h.tx j y hy).up
theorem StOk.get {s : St} {n : Nat} (h : StOk s n) {t : Int} (h1 : 1 ≤ t) (h2 : t ≤ s.all.length) : TxOk (s.tx t) n := by
  refine h.tx (t - 1).toNat _ ?_
  unfold St.tx
  rw [List.getD_eq_getElem?_getD, List.getElem?_eq_getElem (by omega)]
  rfl
theorem form_code {e : Ev} (h : formB e = true) : e.kind = 1 ∨ e.kind = 2 ∨ e.kind = 3 ∨ e.kind = 4 ∨ e.kind = 5 ∨ e.kind = 6 ∨ e.kind = 7 ∨ e.kind = 8 := by
  unfold formB at h
  by_cases h1 : e.kind = 1
  · exact .inl h1
  by_cases h2 : e.kind = 2 ∨ e.kind = 3
  · omega
  by_cases h4 : e.kind = 4
  · omega
  by_cases h5 : e.kind = 5 ∨ e.kind = 6
  · omega
  by_cases h7 : e.kind = 7
  · omega
  by_cases h8 : e.kind = 8
  · omega
  rw [if_neg h1, if_neg h2, if_neg h4, if_neg h5, if_neg h7, if_neg h8] at h
  cases h
theorem form_1 {e : Ev} (h : formB e = true) (k : e.kind = 1) : 1 ≤ e.client ∧ e.client ≤ 8 ∧ 1 ≤ e.tx := by
  unfold formB at h; simp [k] at h; omega
theorem form_8 {e : Ev} (h : formB e = true) (k : e.kind = 8) : 1 ≤ e.client ∧ e.client ≤ 8 ∧ e.tx = 0 := by
  unfold formB at h; simp [k] at h; omega
theorem form_23 {e : Ev} (h : formB e = true) (k : e.kind = 2 ∨ e.kind = 3) : 1 ≤ e.tx ∧ 1 ≤ e.mode ∧ e.mode ≤ 4 ∧ resB e.table e.row = true := by
  unfold formB at h; rw [if_neg (by omega), if_pos k] at h; simp at h; exact ⟨by omega, by omega, by omega, h.2⟩
theorem form_4 {e : Ev} (h : formB e = true) (k : e.kind = 4) : 1 ≤ e.tx := by
  unfold formB at h; simp [k] at h; omega
theorem form_567 {e : Ev} (h : formB e = true) (k : e.kind = 5 ∨ e.kind = 6 ∨ e.kind = 7) : 1 ≤ e.tx := by
  unfold formB at h; rcases k with k | k | k <;> simp [k] at h <;> omega
theorem form_tx {e : Ev} (h : formB e = true) (h8 : e.kind ≠ 8) : 1 ≤ e.tx := by
  rcases form_code h with k | k | k | k | k | k | k | k
  · exact (form_1 h k).2.2
  · exact (form_23 h (.inl k)).1
  · exact (form_23 h (.inr k)).1
  · exact form_4 h k
  · exact form_567 h (by omega)
  · exact form_567 h (by omega)
  · exact form_567 h (by omega)
  · exact absurd k h8

/-- an event that may come: its transaction is there, and isn't decided -/
theorem next_tx {s : St} {e : Ev} {n : Int} (h0 : nextE s e n = 0) (h1 : e.kind ≠ 1) (h8 : e.kind ≠ 8) : formB e = true ∧ 1 ≤ e.tx ∧ e.tx ≤ s.all.length ∧ (s.tx e.tx).state ≠ 3 ∧ stepE s e n = 0 := by
  unfold nextE at h0
  cases hf : formB e with
  | false => rw [if_pos hf] at h0; exact absurd h0 (by decide)
  | true =>
    rw [if_neg (by simp [hf]), if_neg h1, if_neg h8] at h0
    by_cases hd : (s.all.length : Int) < e.tx ∨ (s.tx e.tx).state = 3
    · rw [if_pos hd] at h0; exact absurd h0 (by decide)
    · rw [if_neg hd] at h0
      exact ⟨rfl, form_tx hf h8, by omega, fun h => hd (.inr h), h0⟩
theorem next_form {s : St} {e : Ev} {n : Int} (h0 : nextE s e n = 0) : formB e = true := by
  unfold nextE at h0
  cases hf : formB e with
  | false => rw [if_pos hf] at h0; exact absurd h0 (by decide)
  | true => rfl

theorem StOk.next {s : St} {n : Nat} {e : Ev} (h : StOk s n) (h0 : nextE s e n = 0) : StOk (nextS s e n) (n + 1) := by
  have hf := next_form h0
  have hs : s.serial.length ≤ n + 1 := by have := h.slen; omega
  by_cases k1 : e.kind = 1
  · unfold nextS
    rw [if_pos k1]
    have hc := form_1 hf k1
    refine ⟨fun i x hx => ?_, by have := h.len; simp; omega, hs, fun k hk => by have := h.ser k hk; simp; omega⟩
    simp only at hx
    rw [List.getElem?_append] at hx
    split at hx
    · exact (h.tx i x hx).up
    · rw [List.getElem?_singleton] at hx
      split at hx
      · cases hx
        exact ⟨⟨hc.1, hc.2.1⟩, ⟨by simp [newTx], by simp [newTx]⟩, fun g hg => by simp [newTx] at hg, by simp [newTx]⟩
      · cases hx
  by_cases k8 : e.kind = 8
  · unfold nextS
    rw [if_neg k1, if_pos k8]
    exact ⟨fun i x hx => (h.tx i x hx).up, by have := h.len; simp; omega, hs, h.ser⟩
  obtain ⟨_, h1, h2, h3, h4⟩ := next_tx h0 k1 k8
  have hx := (h.get h1 h2).up
  unfold nextS
  rw [if_neg k1, if_neg k8]
  unfold stepS
  by_cases k2 : e.kind = 2
  · simp only [k2, if_true]
    have := form_23 hf (.inl k2)
    refine h.setx _ _ ?_ _ _ _ hs h.ser
    exact ⟨hx.client, ⟨by show 0 ≤ e.mode; omega, this.2.2.1⟩, hx.got, hx.len⟩
  by_cases k3 : e.kind = 3
  · rw [if_neg k2, if_pos k3]
    have := form_23 hf (.inr k3)
    refine h.setx _ _ ?_ _ _ _ hs h.ser
    refine ⟨hx.client, hx.mode, fun g hg => ?_, ?_⟩
    · simp [Tx.grant] at hg
      rcases hg with hg | rfl
      · exact hx.got g hg
      · exact ⟨this.2.2.2, by simp; omega, this.2.2.1⟩
    · have := (h.get h1 h2).len
      simp [Tx.grant]; omega
  by_cases k4 : e.kind = 4
  · rw [if_neg k2, if_neg k3, if_pos k4]
    refine h.setx _ _ ?_ _ _ _ hs h.ser
    exact ⟨hx.client, hx.mode, hx.got, hx.len⟩
  by_cases k5 : e.kind = 5
  · rw [if_neg k2, if_neg k3, if_neg k4, if_pos k5]
    refine h.setx _ _ ?_ _ _ _ hs h.ser
    exact ⟨hx.client, hx.mode, hx.got, hx.len⟩
  by_cases k6 : e.kind = 6
  · rw [if_neg k2, if_neg k3, if_neg k4, if_neg k5, if_pos k6]
    refine h.setx _ _ (show TxOk _ _ from ?_) _ _ _ (by have := h.slen; simp; omega) (fun k hk => ?_)
    · exact ⟨hx.client, hx.mode, hx.got, hx.len⟩
    simp at hk
    rcases hk with hk | rfl
    · exact h.ser k hk
    · omega
  · rw [if_neg k2, if_neg k3, if_neg k4, if_neg k5, if_neg k6]
    refine h.setx _ _ ?_ _ _ _ hs h.ser
    exact ⟨hx.client, hx.mode, hx.got, hx.len⟩
end Go.Proofs.YtggkohkngockoaaDoor

/-
  What the model of chapter 20 knows of a trace that may be. No conditions.
-/
import Derived.Test.YtggkohkngockoaaDoorPRefF
namespace Go.Proofs.YtggkohkngockoaaDoor
set_option linter.unusedVariables false

theorem of_snoc (l : List Ev) (e : Ev) (t : Int) : ofR (l ++ [e]) t = ofStep t (ofR l t) e := by simp [ofR]
theorem mode_snoc (l : List Ev) (e : Ev) (t a b : Int) : modeR (l ++ [e]) t a b = modeStep t a b (modeR l t a b) e := by simp [modeR]
theorem last_snoc (l : List Ev) (e : Ev) : lastR (l ++ [e]) = lastStep (lastR l) e := by simp [lastR]
theorem serial_snoc (l : List Ev) (e : Ev) : serialR (l ++ [e]) = serialR l ++ (if e.kind = 6 then [e.tx] else []) := by
  unfold serialR
  rw [List.filter_append, List.map_append]
  by_cases h : e.kind = 6 <;> simp [h]
theorem endFrom_ge (t : Int) (l : List Ev) (i : Nat) : i ≤ endFrom t l i ∧ endFrom t l i ≤ i + l.length := by
  induction l generalizing i with
  | nil => simp [endFrom]
  | cons e r ih =>
    unfold endFrom
    split
    · simp
    · have := ih (i + 1); simp; omega
theorem endFrom_snoc (t : Int) (l : List Ev) (e : Ev) (i : Nat) : endFrom t (l ++ [e]) i = if endFrom t l i < i + l.length then endFrom t l i else if e.kind = 6 ∧ e.tx = t then i + l.length else i + l.length + 1 := by
  induction l generalizing i with
  | nil => simp [endFrom]
  | cons a r ih =>
    rw [List.cons_append]
    unfold endFrom
    by_cases h : a.kind = 6 ∧ a.tx = t
    · rw [if_pos h, if_pos h, if_pos (by simp)]
    · rw [if_neg h, if_neg h, ih (i + 1), List.length_cons, show i + 1 + r.length = i + (r.length + 1) by omega]
theorem end_snoc (t : Int) (l : List Ev) (e : Ev) : endR (l ++ [e]) t = if endR l t < l.length then endR l t else if e.kind = 6 ∧ e.tx = t then l.length else l.length + 1 := by
  unfold endR
  rw [endFrom_snoc]
  simp only [Nat.zero_add]
theorem end_le (t : Int) (l : List Ev) : endR l t ≤ l.length := by
  have := (endFrom_ge t l 0).2
  simpa [endR] using this
theorem get_snoc {α : Type} (l : List α) (e : α) (i : Nat) (a : α) : (l ++ [e])[i]? = some a ↔ l[i]? = some a ∨ (i = l.length ∧ a = e) := by
  rcases Nat.lt_trichotomy i l.length with h | h | h
  · rw [List.getElem?_append_left h]
    constructor
    · exact .inl
    · rintro (h1 | h1)
      · exact h1
      · omega
  · subst h
    rw [List.getElem?_append_right (Nat.le_refl _)]
    simp
    exact eq_comm
  · rw [List.getElem?_append_right (by omega), List.getElem?_eq_none (l := l) (by omega), List.getElem?_eq_none (by simp; omega)]
    simp; omega

def GotIn (l : List Ev) (t : Int) (got : List Got) : Prop := ∀ g, g ∈ got ↔ ∃ (i : Nat) (e : Ev), l[i]? = some e ∧ e.kind = 3 ∧ e.tx = t ∧ g = ⟨e.table, e.row, e.mode, (i : Int)⟩
theorem GotIn.same {l : List Ev} {t : Int} {got : List Got} (h : GotIn l t got) (e : Ev) (he : ¬ (e.kind = 3 ∧ e.tx = t)) : GotIn (l ++ [e]) t got := by
  intro g
  rw [h g]
  constructor
  · rintro ⟨i, a, h1, h2⟩; exact ⟨i, a, (get_snoc l e i a).2 (.inl h1), h2⟩
  · rintro ⟨i, a, h1, h2, h3, h4⟩
    rcases (get_snoc l e i a).1 h1 with h1 | ⟨_, rfl⟩
    · exact ⟨i, a, h1, h2, h3, h4⟩
    · exact absurd ⟨h2, h3⟩ he
theorem GotIn.more {l : List Ev} {t : Int} {got : List Got} (h : GotIn l t got) (e : Ev) (h3 : e.kind = 3) (ht : e.tx = t) : GotIn (l ++ [e]) t (got ++ [⟨e.table, e.row, e.mode, (l.length : Int)⟩]) := by
  intro g
  rw [List.mem_append, h g, List.mem_singleton]
  constructor
  · rintro (⟨i, a, h1, h2⟩ | rfl)
    · exact ⟨i, a, (get_snoc l e i a).2 (.inl h1), h2⟩
    · exact ⟨l.length, e, (get_snoc l e _ e).2 (.inr ⟨rfl, rfl⟩), h3, ht, rfl⟩
  · rintro ⟨i, a, h1, h2, h4, h5⟩
    rcases (get_snoc l e i a).1 h1 with h1 | ⟨rfl, rfl⟩
    · exact .inl ⟨i, a, h1, h2, h4, h5⟩
    · exact .inr h5

/-- what the model knows of a transaction is what the trace says of it -/
structure TxInv (l : List Ev) (ser : List Int) (t : Int) (x : Tx) : Prop where
  st : (x.state = 1 ∧ (ofR l t).state = 1) ∨ (x.state = 2 ∧ (ofR l t).state = 2) ∨ (x.state = 3 ∧ ((ofR l t).state = 3 ∨ (ofR l t).state = 4))
  asked : (ofR l t).asked = x.asked
  yes : x.opn = true → (ofR l t).mode = x.mode ∧ 1 ≤ x.mode ∧ (ofR l t).table = x.table ∧ (ofR l t).row = x.row
  no : x.opn = false → (ofR l t).mode = 0
  modes : ∀ a b, modeR l t a b = modeOf a b x.got
  got : GotIn l t x.got
  fin : (t ∈ ser ∧ x.fin = endR l t ∧ endR l t < l.length ∧ x.state = 3) ∨ (t ∉ ser ∧ endR l t = l.length)
theorem TxInv.other {l : List Ev} {ser ser' : List Int} {t : Int} {x : Tx} (h : TxInv l ser t x) (e : Ev) (he : e.kind = 8 ∨ ¬ e.tx = t) (hs : t ∈ ser' ↔ t ∈ ser) : TxInv (l ++ [e]) ser' t x := by
  have h1 : ofR (l ++ [e]) t = ofR l t := by rw [of_snoc]; unfold ofStep; rw [if_pos (by rcases he with h | h; exact .inr h; exact .inl h)]
  refine ⟨by rw [h1]; exact h.st, by rw [h1]; exact h.asked, by rw [h1]; exact h.yes, by rw [h1]; exact h.no, fun a b => ?_, h.got.same e (by rcases he with h | h <;> simp [h]), ?_⟩
  · rw [mode_snoc, h.modes]
    unfold modeStep
    rw [if_neg (by rcases he with h | h <;> simp [h])]
  · have hn : ¬ (e.kind = 6 ∧ e.tx = t) := by rcases he with h | h <;> simp [h]
    rcases h.fin with ⟨a, b, c, d⟩ | ⟨a, b⟩
    · left
      rw [end_snoc, if_pos c]
      exact ⟨hs.2 a, b, by simp; omega, d⟩
    · right
      rw [end_snoc, if_neg (by omega), if_neg hn]
      exact ⟨fun h => a (hs.1 h), by simp⟩
/-- the transaction's own event that is no commit and no grant -/
theorem TxInv.own {l : List Ev} {ser : List Int} {t : Int} {x y : Tx} (h : TxInv l ser t x) (e : Ev) (h3 : ¬ e.kind = 3) (h6 : ¬ e.kind = 6) (hx : ¬ x.state = 3) (hg : y.got = x.got) (hst : (y.state = 1 ∧ (ofR (l ++ [e]) t).state = 1) ∨ (y.state = 2 ∧ (ofR (l ++ [e]) t).state = 2) ∨ (y.state = 3 ∧ ((ofR (l ++ [e]) t).state = 3 ∨ (ofR (l ++ [e]) t).state = 4)))
    (ha : (ofR (l ++ [e]) t).asked = y.asked) (hy : y.opn = true → (ofR (l ++ [e]) t).mode = y.mode ∧ 1 ≤ y.mode ∧ (ofR (l ++ [e]) t).table = y.table ∧ (ofR (l ++ [e]) t).row = y.row) (hn : y.opn = false → (ofR (l ++ [e]) t).mode = 0) : TxInv (l ++ [e]) ser t y := by
  refine ⟨hst, ha, hy, hn, fun a b => ?_, ?_, ?_⟩
  · rw [mode_snoc, h.modes, hg]; unfold modeStep; rw [if_neg (by simp [h3])]
  · rw [hg]; exact h.got.same e (by simp [h3])
  · rcases h.fin with ⟨a, b, c, d⟩ | ⟨a, b⟩
    · exact absurd d hx
    · right
      rw [end_snoc, if_neg (by omega), if_neg (by simp [h6])]
      exact ⟨a, by simp⟩

structure Inv (l : List Ev) (s : St) : Prop where
  last : lastR l = s.all.length
  tx : ∀ (i : Nat) (x : Tx), s.all[i]? = some x → TxInv l s.serial ((i : Int) + 1) x
  non : ∀ e ∈ l, ¬ e.kind = 8 → 1 ≤ e.tx ∧ e.tx ≤ s.all.length
  bg : ∀ e ∈ l, e.kind = 1 → ∃ (i : Nat) (x : Tx), s.all[i]? = some x ∧ e.tx = (i : Int) + 1 ∧ x.client = e.client
  bg' : ∀ (i : Nat) (x : Tx), s.all[i]? = some x → ∃ e ∈ l, e.kind = 1 ∧ e.tx = (i : Int) + 1 ∧ e.client = x.client
  dead : ∀ c : Nat, s.dead c = true ↔ ∃ e ∈ l, e.kind = 8 ∧ e.client = c
  now : ∀ c : Nat, s.now c = true ↔ ∃ (i : Nat) (x : Tx), s.all[i]? = some x ∧ x.client = c ∧ ¬ x.state = 3
  uniq : ∀ (i j : Nat) (x y : Tx), s.all[i]? = some x → s.all[j]? = some y → x.client = y.client → ¬ x.state = 3 → ¬ y.state = 3 → i = j
  ser : s.serial = serialR l
  ser3 : ∀ t ∈ s.serial, ∃ (i : Nat) (x : Tx), s.all[i]? = some x ∧ t = (i : Int) + 1 ∧ x.state = 3
  pair : s.serial.Pairwise (fun a b => (s.tx a).fin < (s.tx b).fin ∧ clashB (s.tx b) (s.tx a) = false)

theorem inv_start : Inv [] start := by
  refine ⟨rfl, ?_, ?_, ?_, ?_, ?_, ?_, ?_, rfl, ?_, List.Pairwise.nil⟩ <;> simp [start]

theorem tx_at {s : St} {i : Nat} {x : Tx} (h : s.all[i]? = some x) : s.tx ((i : Int) + 1) = x := by
  unfold St.tx
  rw [List.getD_eq_getElem?_getD, show ((i : Int) + 1 - 1).toNat = i by omega, h]
  rfl
theorem at_tx {s : St} {t : Int} (h1 : 1 ≤ t) (h2 : t ≤ s.all.length) : ∃ i : Nat, t = (i : Int) + 1 ∧ i < s.all.length ∧ s.all[i]? = some (s.tx t) := by
  refine ⟨(t - 1).toNat, by omega, by omega, ?_⟩
  unfold St.tx
  rw [List.getD_eq_getElem?_getD, List.getElem?_eq_getElem (by omega)]
  rfl
theorem set_get {l : List Tx} {i j : Nat} {x y : Tx} (h : (l.set i x)[j]? = some y) : (j = i ∧ y = x ∧ i < l.length) ∨ (j ≠ i ∧ l[j]? = some y) := by
  rw [List.getElem?_set] at h
  split at h
  · next e =>
    subst e
    split at h
    · next hl => cases h; exact .inl ⟨rfl, rfl, hl⟩
    · cases h
  · next e => exact .inr ⟨fun h => e h.symm, h⟩
theorem get_set {l : List Tx} {i : Nat} (x : Tx) (h : i < l.length) : (l.set i x)[i]? = some x := by simp [h]
theorem get_set_ne {l : List Tx} {i j : Nat} (x : Tx) (h : j ≠ i) : (l.set i x)[j]? = l[j]? := by rw [List.getElem?_set, if_neg (fun e => h e.symm)]

/-- an event of a transaction that isn't decided -/
theorem Inv.upd {l : List Ev} {s : St} (h : Inv l s) {e : Ev} {i : Nat} {x y : Tx} {now : Nat → Bool} {ser : List Int} (hi : s.all[i]? = some x) (he : e.tx = (i : Int) + 1) (h1 : ¬ e.kind = 1) (h8 : ¬ e.kind = 8) (hx : ¬ x.state = 3) (hc : y.client = x.client)
    (hy : TxInv (l ++ [e]) ser ((i : Int) + 1) y) (hnow : (¬ y.state = 3 ∧ now = s.now) ∨ (y.state = 3 ∧ now = off s.now x.client false))
    (hser : (¬ e.kind = 6 ∧ ser = s.serial) ∨ (e.kind = 6 ∧ ser = s.serial ++ [e.tx] ∧ y.state = 3 ∧ y.fin = l.length ∧ ∀ a ∈ s.serial, clashB y (s.tx a) = false)) :
    Inv (l ++ [e]) ⟨s.all.set i y, s.dead, now, ser⟩ := by
  have hil : i < s.all.length := (List.getElem?_eq_some_iff.1 hi).1
  have hni : ∀ t ∈ s.serial, t ≠ (i : Int) + 1 := fun t ht e0 => by
    obtain ⟨j, z, hj, e1, hz⟩ := h.ser3 t ht
    have : j = i := by omega
    subst this
    rw [hi] at hj; cases hj
    exact hx hz
  have htx : ∀ t ∈ s.serial, St.tx ⟨s.all.set i y, s.dead, now, ser⟩ t = s.tx t := fun t ht => by
    obtain ⟨j, z, hj, e1, hz⟩ := h.ser3 t ht
    have hji : j ≠ i := fun e2 => hni t ht (by omega)
    subst e1
    rw [tx_at hj]
    exact tx_at (s := ⟨s.all.set i y, s.dead, now, ser⟩) (by rw [← hj]; exact get_set_ne y hji)
  have hmem : ∀ t, t ≠ e.tx → (t ∈ ser ↔ t ∈ s.serial) := fun t ht => by
    rcases hser with ⟨_, rfl⟩ | ⟨_, rfl, _⟩
    · exact Iff.rfl
    · simp [ht]
  refine ⟨?_, fun j z hz => ?_, fun a ha ha8 => ?_, fun a ha ha1 => ?_, fun j z hz => ?_, fun c => ?_, fun c => ?_, fun j k z u hz hu => ?_, ?_, fun t ht => ?_, ?_⟩
  · rw [last_snoc, h.last]; unfold lastStep; rw [if_neg h1]; simp
  · rcases set_get hz with ⟨rfl, rfl, _⟩ | ⟨hne, hz'⟩
    · exact hy
    · exact (h.tx j z hz').other e (.inr (by omega)) (hmem _ (by omega))
  · rcases List.mem_append.1 ha with ha | ha
    · simpa using h.non a ha ha8
    · rw [List.mem_singleton] at ha; subst ha; simp; omega
  · rcases List.mem_append.1 ha with ha | ha
    · obtain ⟨j, z, h1', h2, h3⟩ := h.bg a ha ha1
      by_cases hji : j = i
      · subst hji
        rw [hi] at h1'; cases h1'
        exact ⟨j, y, get_set y hil, h2, hc.trans h3⟩
      · exact ⟨j, z, (get_set_ne y hji).trans h1', h2, h3⟩
    · rw [List.mem_singleton] at ha; subst ha; exact absurd ha1 h1
  · rcases set_get hz with ⟨rfl, rfl, _⟩ | ⟨hne, hz'⟩
    · obtain ⟨a, h2, h3, h4, h5⟩ := h.bg' j x hi
      exact ⟨a, by simp [h2], h3, h4, h5.trans hc.symm⟩
    · obtain ⟨a, h2, h3, h4, h5⟩ := h.bg' j z hz'
      exact ⟨a, by simp [h2], h3, h4, h5⟩
  · rw [h.dead c]
    constructor
    · rintro ⟨a, h2, h3⟩; exact ⟨a, by simp [h2], h3⟩
    · rintro ⟨a, h2, h3⟩
      rcases List.mem_append.1 h2 with h2 | h2
      · exact ⟨a, h2, h3⟩
      · rw [List.mem_singleton] at h2; subst h2; exact absurd h3.1 h8
  · rcases hnow with ⟨hy3, rfl⟩ | ⟨hy3, rfl⟩
    · show s.now c = true ↔ _
      rw [h.now c]
      constructor
      · rintro ⟨j, z, h2, h3, h4⟩
        by_cases hji : j = i
        · subst hji
          rw [hi] at h2; cases h2
          exact ⟨j, y, get_set y hil, hc.trans h3, hy3⟩
        · exact ⟨j, z, (get_set_ne y hji).trans h2, h3, h4⟩
      · rintro ⟨j, z, h2, h3, h4⟩
        rcases set_get h2 with ⟨rfl, rfl, _⟩ | ⟨hne, h2'⟩
        · exact ⟨j, x, hi, hc.symm.trans h3, hx⟩
        · exact ⟨j, z, h2', h3, h4⟩
    · show off s.now x.client false c = true ↔ _
      unfold off
      by_cases hcc : (c : Int) = x.client
      · rw [if_pos hcc]
        constructor
        · intro h; cases h
        · rintro ⟨j, z, h2, h3, h4⟩
          rcases set_get h2 with ⟨rfl, rfl, _⟩ | ⟨hne, h2'⟩
          · exact absurd hy3 h4
          · exact absurd (h.uniq j i z x h2' hi (h3.trans hcc) h4 hx) hne
      · rw [if_neg hcc, h.now c]
        constructor
        · rintro ⟨j, z, h2, h3, h4⟩
          have hji : j ≠ i := fun e2 => by subst e2; rw [hi] at h2; cases h2; exact hcc h3.symm
          exact ⟨j, z, (get_set_ne y hji).trans h2, h3, h4⟩
        · rintro ⟨j, z, h2, h3, h4⟩
          rcases set_get h2 with ⟨rfl, rfl, _⟩ | ⟨hne, h2'⟩
          · exact absurd hy3 h4
          · exact ⟨j, z, h2', h3, h4⟩
  · intro hcl hz3 hu3
    have key : ∀ {p : Nat} {q : Tx}, (s.all.set i y)[p]? = some q → ¬ q.state = 3 → ∃ q' : Tx, s.all[p]? = some q' ∧ q'.client = q.client ∧ ¬ q'.state = 3 := by
      intro p q hq hq3
      rcases set_get hq with ⟨rfl, rfl, _⟩ | ⟨hne, hq'⟩
      · exact ⟨x, hi, hc.symm, hx⟩
      · exact ⟨q, hq', rfl, hq3⟩
    obtain ⟨z', a1, a2, a3⟩ := key hz hz3
    obtain ⟨u', b1, b2, b3⟩ := key hu hu3
    exact h.uniq j k z' u' a1 b1 (a2.trans (hcl.trans b2.symm)) a3 b3
  · rw [serial_snoc]
    rcases hser with ⟨h6, rfl⟩ | ⟨h6, rfl, _⟩
    · rw [if_neg h6, List.append_nil]; exact h.ser
    · rw [if_pos h6, h.ser]
  · have old : t ∈ s.serial → ∃ (j : Nat) (z : Tx), (s.all.set i y)[j]? = some z ∧ t = (j : Int) + 1 ∧ z.state = 3 := fun ht => by
      obtain ⟨j, z, h2, h3, h4⟩ := h.ser3 t ht
      have hji : j ≠ i := fun e2 => hni t ht (by omega)
      exact ⟨j, z, (get_set_ne y hji).trans h2, h3, h4⟩
    rcases hser with ⟨h6, rfl⟩ | ⟨h6, rfl, hy3, _⟩
    · exact old ht
    · rcases List.mem_append.1 ht with ht | ht
      · exact old ht
      · rw [List.mem_singleton] at ht
        exact ⟨i, y, get_set y hil, ht.trans he, hy3⟩
  · have old : s.serial.Pairwise (fun a b => (St.tx ⟨s.all.set i y, s.dead, now, ser⟩ a).fin < (St.tx ⟨s.all.set i y, s.dead, now, ser⟩ b).fin ∧ clashB (St.tx ⟨s.all.set i y, s.dead, now, ser⟩ b) (St.tx ⟨s.all.set i y, s.dead, now, ser⟩ a) = false) :=
      h.pair.imp_of_mem fun {a b} ha hb hab => by rw [htx a ha, htx b hb]; exact hab
    rcases hser with ⟨h6, rfl⟩ | ⟨h6, rfl, hy3, hyf, hcl⟩
    · exact old
    · have hT : St.tx ⟨s.all.set i y, s.dead, now, s.serial ++ [e.tx]⟩ e.tx = y := by
        rw [he]; exact tx_at (s := ⟨s.all.set i y, s.dead, now, s.serial ++ [(i : Int) + 1]⟩) (get_set y hil)
      refine List.pairwise_append.2 ⟨old, by simp, fun a ha b hb => ?_⟩
      rw [List.mem_singleton] at hb
      subst hb
      rw [hT, htx a ha]
      refine ⟨?_, hcl a ha⟩
      obtain ⟨j, z, h2, h3, h4⟩ := h.ser3 a ha
      subst h3
      rw [tx_at h2, hyf]
      rcases (h.tx j z h2).fin with ⟨_, p2, p3, _⟩ | ⟨p1, _⟩
      · rw [p2]; omega
      · exact absurd ha p1
end Go.Proofs.YtggkohkngockoaaDoor

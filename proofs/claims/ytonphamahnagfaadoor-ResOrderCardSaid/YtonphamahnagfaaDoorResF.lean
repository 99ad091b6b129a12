/-
  Texts of resources: digits, what a text goes on to, what it is read to; no program. No conditions.
-/
import Derived.WalkKit
import Derived.ProofKit
namespace Go.Proofs.YtonphamahnagfaaDoor
open Go.ChangeShapes Go.WideShapes Go.ChangeAt Go.RowKit
set_option linter.unusedVariables false

theorem snoc_ind {α : Type} {P : List α → Prop} (h0 : P []) (h1 : ∀ a c, P a → P (a ++ [c])) (l : List α) : P l := by
  have h : ∀ r : List α, P r.reverse := by
    intro r
    induction r with
    | nil => exact h0
    | cons c r ih => rw [List.reverse_cons]; exact h1 _ _ ih
  have := h l.reverse
  rwa [List.reverse_reverse] at this
def dg (k : Nat) : UInt8 := UInt8.ofNat (48 + k)
/-- the digits of a number below a thousand -/
def digL (n : Nat) : List UInt8 := if n < 10 then [dg n] else if n < 100 then [dg (n / 10), dg (n % 10)] else [dg (n / 100), dg (n / 10 % 10), dg (n % 10)]
def textL (t r : Nat) : List UInt8 := if r = 0 then digL t else digL t ++ 46 :: digL r
/-- may a text go on to a number's digits? -/
def goN (p : List UInt8) (r : Nat) : Bool := decide (p.length ≤ (digL r).length) && decide ((digL r).take p.length = p)
/-- .. to a text of the table t? -/
def goT (p : List UInt8) (t : Nat) : Bool :=
  if p.length ≤ (digL t).length then decide ((digL t).take p.length = p)
  else decide (p.take (digL t).length = digL t) && decide (p[(digL t).length]? = some 46) && (List.range 250).any fun r => goN (p.drop ((digL t).length + 1)) (r + 1)
def goesL (p : List UInt8) : Bool := (List.range 250).any fun t => goT p (t + 1)

/-- one digit more -/
def stepN (m : Nat) (c : UInt8) : Option Nat := if 48 ≤ c.toNat ∧ c.toNat ≤ 57 then (if 1 ≤ 10 * m + (c.toNat - 48) ∧ 10 * m + (c.toNat - 48) ≤ 250 then some (10 * m + (c.toNat - 48)) else none) else none
def nr (m : Nat) : List UInt8 → Option Nat
  | [] => some m
  | c :: r => match stepN m c with
    | some m' => nr m' r
    | none => none
theorem nr_append (a b : List UInt8) : ∀ m, nr m (a ++ b) = (nr m a).bind fun k => nr k b := by
  induction a with
  | nil => intro m; rfl
  | cons c a ih =>
    intro m
    simp only [List.cons_append, nr]
    cases stepN m c with
    | none => rfl
    | some k => exact ih k
theorem nr_dig : ∀ t, t < 250 → nr 0 (digL (t + 1)) = some (t + 1) := by decide +kernel
theorem nr_prefix {a b : List UInt8} {m k : Nat} (h : nr m (a ++ b) = some k) : ∃ j, nr m a = some j := by
  rw [nr_append] at h
  cases h' : nr m a with
  | none => rw [h'] at h; cases h
  | some j => exact ⟨j, rfl⟩
theorem stepN_some {m k : Nat} {c : UInt8} (h : stepN m c = some k) : 48 ≤ c.toNat ∧ c.toNat ≤ 57 ∧ k = 10 * m + (c.toNat - 48) ∧ 1 ≤ k ∧ k ≤ 250 := by
  unfold stepN at h
  split at h
  · rename_i h1
    split at h
    · rename_i h2
      simp only [Option.some.injEq] at h
      omega
    · cases h
  · cases h
theorem dg_of {c : UInt8} (h1 : 48 ≤ c.toNat) (h2 : c.toNat ≤ 57) : c = dg (c.toNat - 48) := by
  unfold dg
  rw [show 48 + (c.toNat - 48) = c.toNat by omega]
  exact (UInt8.ofNat_toNat).symm
theorem dig_step : ∀ n, n < 26 → ∀ d, d < 10 → 1 ≤ 10 * n + d → 10 * n + d ≤ 250 → digL (10 * n + d) = (if n = 0 then [] else digL n) ++ [dg d] := by decide +kernel
/-- the digits that were read are those of the number -/
theorem nr_digits (a : List UInt8) : ∀ k, nr 0 a = some k → a = (if k = 0 then [] else digL k) ∧ k ≤ 250 := by
  refine snoc_ind (P := fun a => ∀ k, nr 0 a = some k → a = (if k = 0 then [] else digL k) ∧ k ≤ 250) ?_ ?_ a
  · intro k h; simp [nr] at h; subst h; exact ⟨rfl, by omega⟩
  · intro a c ih k h
    rw [nr_append] at h
    cases h' : nr 0 a with
    | none => rw [h'] at h; cases h
    | some m =>
      rw [h'] at h
      simp only [Option.bind_some, nr] at h
      cases h2 : stepN m c with
      | none => rw [h2] at h; cases h
      | some m' =>
        rw [h2] at h
        simp only [Option.some.injEq] at h
        subst h
        obtain ⟨d1, d2, d3, d4, d5⟩ := stepN_some h2
        obtain ⟨e1, e2⟩ := ih m h'
        refine ⟨?_, d5⟩
        rw [if_neg (by omega), d3, dig_step m (by omega) (c.toNat - 48) (by omega) (by omega) (by omega), ← e1, ← dg_of d1 d2]
theorem nr_le (a : List UInt8) {k : Nat} (h : nr 0 a = some k) : k ≤ 250 := (nr_digits a k h).2

/-- where a text stands -/
inductive St
  | tab (n : Nat)
  | row (n m : Nat)
  deriving DecidableEq
def step : St → UInt8 → Option St
  | .tab n, c => if c.toNat = 46 ∧ 1 ≤ n then some (.row n 0) else (stepN n c).map .tab
  | .row n m, c => (stepN m c).map (.row n)
def run (s : St) : List UInt8 → Option St
  | [] => some s
  | c :: r => match step s c with
    | some s' => run s' r
    | none => none
theorem run_append (a b : List UInt8) : ∀ s, run s (a ++ b) = (run s a).bind fun k => run k b := by
  induction a with
  | nil => intro m; rfl
  | cons c a ih =>
    intro m
    simp only [List.cons_append, run]
    cases step m c with
    | none => rfl
    | some k => exact ih k
theorem step_tab {n : Nat} {c : UInt8} {k : Nat} (h : stepN n c = some k) : step (.tab n) c = some (.tab k) := by
  obtain ⟨h1, _⟩ := stepN_some h
  simp only [step]
  rw [if_neg (by omega), h]; rfl
theorem run_tab (a : List UInt8) : ∀ n k, nr n a = some k → run (.tab n) a = some (.tab k) := by
  induction a with
  | nil => intro n k h; simp [nr] at h; subst h; rfl
  | cons c a ih =>
    intro n k h
    simp only [nr] at h
    cases h2 : stepN n c with
    | none => rw [h2] at h; cases h
    | some m =>
      rw [h2] at h
      simp only [run, step_tab h2]
      exact ih m k h
theorem run_row (a : List UInt8) : ∀ t n, run (.row t n) a = (nr n a).map (.row t) := by
  induction a with
  | nil => intro t n; rfl
  | cons c a ih =>
    intro t n
    simp only [run, step, nr]
    cases h2 : stepN n c with
    | none => rfl
    | some m => exact ih t m
theorem run_dot {a : List UInt8} {n : Nat} (h : nr 0 a = some n) (h1 : 1 ≤ n) (k : List UInt8) : run (.tab 0) (a ++ 46 :: k) = (nr 0 k).map (.row n) := by
  rw [run_append, run_tab a 0 n h]
  simp only [Option.bind_some, run, step]
  rw [if_pos ⟨by decide, h1⟩]
  exact run_row k n 0
theorem run_text {t r : Nat} (ht : 1 ≤ t ∧ t ≤ 250) (hr : r ≤ 250) : run (.tab 0) (textL t r) = some (if r = 0 then .tab t else .row t r) := by
  have h1 := nr_dig (t - 1) (by omega)
  rw [show t - 1 + 1 = t by omega] at h1
  unfold textL
  by_cases h : r = 0
  · rw [if_pos h, if_pos h]; exact run_tab _ _ _ h1
  · have h2 := nr_dig (r - 1) (by omega)
    rw [show r - 1 + 1 = r by omega] at h2
    rw [if_neg h, if_neg h, run_dot h1 ht.1, h2]; rfl
/-- what a text that stands somewhere is -/
theorem run_is (p : List UInt8) : ∀ s, run (.tab 0) p = some s → (∃ n, s = .tab n ∧ p = (if n = 0 then [] else digL n) ∧ n ≤ 250) ∨ ∃ n m, s = .row n m ∧ 1 ≤ n ∧ n ≤ 250 ∧ m ≤ 250 ∧ p = digL n ++ 46 :: (if m = 0 then [] else digL m) := by
  refine snoc_ind (P := fun p => ∀ s, run (.tab 0) p = some s → (∃ n, s = .tab n ∧ p = (if n = 0 then [] else digL n) ∧ n ≤ 250) ∨ ∃ n m, s = .row n m ∧ 1 ≤ n ∧ n ≤ 250 ∧ m ≤ 250 ∧ p = digL n ++ 46 :: (if m = 0 then [] else digL m)) ?_ ?_ p
  · intro s h; simp [run] at h; subst h; exact .inl ⟨0, rfl, rfl, by omega⟩
  · intro p c ih s h
    rw [run_append] at h
    cases h' : run (.tab 0) p with
    | none => rw [h'] at h; cases h
    | some s0 =>
      rw [h'] at h
      simp only [Option.bind_some, run] at h
      rcases ih s0 h' with ⟨n, rfl, hp, hn⟩ | ⟨n, m, rfl, hn1, hn2, hm, hp⟩
      · simp only [step] at h
        by_cases hd : c.toNat = 46 ∧ 1 ≤ n
        · rw [if_pos hd] at h
          simp only [Option.some.injEq] at h
          subst h
          refine .inr ⟨n, 0, rfl, hd.2, hn, by omega, ?_⟩
          rw [hp, if_neg (by omega), if_pos rfl]
          have : c = 46 := by
            have := UInt8.ofNat_toNat (x := c)
            rw [hd.1] at this; exact this.symm
          rw [this]
        · rw [if_neg hd] at h
          cases h2 : stepN n c with
          | none => rw [h2] at h; cases h
          | some k =>
            rw [h2] at h
            simp only [Option.map_some, Option.some.injEq] at h
            subst h
            obtain ⟨d1, d2, d3, d4, d5⟩ := stepN_some h2
            refine .inl ⟨k, rfl, ?_, d5⟩
            rw [if_neg (by omega), d3, dig_step n (by omega) (c.toNat - 48) (by omega) (by omega) (by omega), ← hp, ← dg_of d1 d2]
      · simp only [step] at h
        cases h2 : stepN m c with
        | none => rw [h2] at h; cases h
        | some k =>
          rw [h2] at h
          simp only [Option.map_some, Option.some.injEq] at h
          subst h
          obtain ⟨d1, d2, d3, d4, d5⟩ := stepN_some h2
          refine .inr ⟨n, k, rfl, hn1, hn2, d5, ?_⟩
          rw [hp, if_neg (show k ≠ 0 by omega), d3, dig_step m (by omega) (c.toNat - 48) (by omega) (by omega) (by omega), ← dg_of d1 d2]
          simp

theorem goN_iff {p : List UInt8} {r : Nat} : goN p r = true ↔ ∃ q, digL r = p ++ q := by
  unfold goN
  simp only [Bool.and_eq_true, decide_eq_true_eq]
  constructor
  · rintro ⟨h0, h⟩
    have e := (List.take_append_drop p.length (digL r)).symm
    rw [h] at e
    exact ⟨_, e⟩
  · rintro ⟨q, h⟩
    rw [h]; simp
theorem goT_iff {p : List UInt8} {t : Nat} : goT p t = true ↔ (∃ q, digL t = p ++ q) ∨ ∃ k, p = digL t ++ 46 :: k ∧ ∃ r, r < 250 ∧ goN k (r + 1) = true := by
  unfold goT
  by_cases h : p.length ≤ (digL t).length
  · rw [if_pos h]
    simp only [decide_eq_true_eq]
    constructor
    · intro h2
      have e := (List.take_append_drop p.length (digL t)).symm
      rw [h2] at e
      exact .inl ⟨_, e⟩
    · rintro (⟨q, h2⟩ | ⟨k, h2, _⟩)
      · rw [h2]; simp
      · rw [h2] at h; simp at h; omega
  · rw [if_neg h]
    simp only [Bool.and_eq_true, decide_eq_true_eq, List.any_eq_true, List.mem_range]
    constructor
    · rintro ⟨⟨h1, h2⟩, r, h3, h4⟩
      refine .inr ⟨p.drop ((digL t).length + 1), ?_, r, h3, h4⟩
      have hl : (digL t).length < p.length := by omega
      rw [List.getElem?_eq_getElem hl, Option.some.injEq] at h2
      rw [← h2, ← List.drop_eq_getElem_cons hl]
      conv => lhs; rw [← List.take_append_drop (digL t).length p, h1]
    · rintro (⟨q, h2⟩ | ⟨k, h2, r, h3, h4⟩)
      · rw [h2] at h; simp at h
      · subst h2
        refine ⟨⟨by simp, by simp⟩, r, h3, ?_⟩
        rw [show (digL t ++ 46 :: k).drop ((digL t).length + 1) = k by rw [← List.drop_drop]; simp]
        exact h4
/-- a text that isn't empty may go on just if it stands somewhere -/
theorem goes_iff {p : List UInt8} (hp : p ≠ []) : goesL p = true ↔ (run (.tab 0) p).isSome = true := by
  unfold goesL
  simp only [List.any_eq_true, List.mem_range]
  constructor
  · rintro ⟨t, ht, h⟩
    rcases goT_iff.1 h with ⟨q, h2⟩ | ⟨k, h2, r, hr, h3⟩
    · have := nr_dig t ht
      rw [h2] at this
      obtain ⟨j, hj⟩ := nr_prefix this
      rw [run_tab _ _ _ hj]; rfl
    · obtain ⟨q, h4⟩ := goN_iff.1 h3
      have := nr_dig r hr
      rw [h4] at this
      obtain ⟨j, hj⟩ := nr_prefix this
      rw [h2, run_dot (nr_dig t ht) (by omega), hj]; rfl
  · intro h
    obtain ⟨s, hs⟩ := Option.isSome_iff_exists.1 h
    rcases run_is p s hs with ⟨n, rfl, h1, h2⟩ | ⟨n, m, rfl, h1, h2, h3, h4⟩
    · have hn : n ≠ 0 := by
        intro h0
        rw [if_pos h0] at h1
        exact hp h1
      rw [if_neg hn] at h1
      exact ⟨n - 1, by omega, goT_iff.2 (.inl ⟨[], by rw [show n - 1 + 1 = n by omega, h1]; simp⟩)⟩
    · refine ⟨n - 1, by omega, goT_iff.2 (.inr ⟨_, by rw [show n - 1 + 1 = n by omega]; exact h4, ?_⟩)⟩
      by_cases hm : m = 0
      · exact ⟨0, by omega, goN_iff.2 ⟨digL 1, by rw [if_pos hm]; rfl⟩⟩
      · exact ⟨m - 1, by omega, goN_iff.2 ⟨[], by rw [if_neg hm, show m - 1 + 1 = m by omega]; simp⟩⟩
theorem dig_len (n : Nat) : (digL n).length ≤ 3 := by
  unfold digL
  split
  · simp
  · split <;> simp
theorem run_len {p : List UInt8} (h : (run (.tab 0) p).isSome = true) : p.length ≤ 7 := by
  obtain ⟨s, hs⟩ := Option.isSome_iff_exists.1 h
  rcases run_is p s hs with ⟨n, rfl, h1, h2⟩ | ⟨n, m, rfl, h1, h2, h3, h4⟩
  · rw [h1]
    have := dig_len n
    split
    · simp
    · omega
  · rw [h4]
    have := dig_len n
    have := dig_len m
    split <;> simp <;> omega

/-- where a text stops first, from a place on -/
def stops (s : St) (i : Nat) : List UInt8 → Nat
  | [] => i
  | c :: r => match step s c with
    | some s' => stops s' (i + 1) r
    | none => i
/-- what a text is read to: table, row, or the place of the fault -/
def readL (L : List UInt8) : (Nat × Nat) ⊕ Nat :=
  match run (.tab 0) L with
  | some (.tab n) => if n = 0 then .inr L.length else .inl (n, 0)
  | some (.row n m) => if m = 0 then .inr L.length else .inl (n, m)
  | none => .inr (stops (.tab 0) 0 L)
theorem stops_at (L : List UInt8) : ∀ s i, run s L = none → i ≤ stops s i L ∧ stops s i L < i + L.length ∧ (run s (L.take (stops s i L - i))).isSome = true ∧ (run s (L.take (stops s i L - i + 1))).isSome = false := by
  induction L with
  | nil => intro s i h; simp [run] at h
  | cons c r ih =>
    intro s i h
    simp only [run] at h
    simp only [stops]
    cases h2 : step s c with
    | none => simp [run, h2]
    | some s' =>
      rw [h2] at h
      simp only
      obtain ⟨h3, h4, h5, h6⟩ := ih s' (i + 1) h
      generalize stops s' (i + 1) r = j at *
      refine ⟨by omega, by simp; omega, ?_, ?_⟩
      · rw [show j - i = (j - (i + 1)) + 1 by omega, List.take_succ_cons]
        simp only [run, h2]; exact h5
      · rw [show j - i + 1 = (j - (i + 1) + 1) + 1 by omega, List.take_succ_cons]
        simp only [run, h2]; exact h6
theorem run_take {L : List UInt8} {s : St} {i j : Nat} (h : (run s (L.take j)).isSome = true) (hij : i ≤ j) : (run s (L.take i)).isSome = true := by
  rw [show L.take j = (L.take j).take i ++ (L.take j).drop i from (List.take_append_drop _ _).symm, run_append, List.take_take, Nat.min_eq_left hij] at h
  cases h' : run s (L.take i) with
  | none => rw [h'] at h; cases h
  | some k => rfl
/-- a number read from a place on: it and where it ends, or the place of the fault -/
def numL (n i : Nat) : List UInt8 → (Nat × Nat) ⊕ Nat
  | [] => .inl (n, i)
  | c :: r => if 48 ≤ c.toNat ∧ c.toNat ≤ 57 then (match stepN n c with
    | some k => numL k (i + 1) r
    | none => .inr i) else .inl (n, i)
def numberL (L : List UInt8) (pl : Nat) : (Nat × Nat) ⊕ Nat :=
  match numL 0 pl (L.drop pl) with
  | .inr i => .inr i
  | .inl (n, i) => if i = pl then .inr i else .inl (n, i)
theorem numL_cons {n i : Nat} {c : UInt8} {r : List UInt8} : numL n i (c :: r) = if 48 ≤ c.toNat ∧ c.toNat ≤ 57 then (match stepN n c with
    | some k => numL k (i + 1) r
    | none => .inr i) else .inl (n, i) := rfl
/-- what Parse reads, by the code's own road -/
def parseL (L : List UInt8) : (Nat × Nat) ⊕ Nat :=
  match numberL L 0 with
  | .inr i => .inr i
  | .inl (n, i) => if i = L.length then .inl (n, 0) else if L[i]? ≠ some 46 then .inr i else
    match numberL L (i + 1) with
    | .inr j => .inr j
    | .inl (r, j) => if j < L.length then .inr j else .inl (n, r)
theorem numL_le (r : List UInt8) : ∀ m j n i, numL m j r = .inl (n, i) → j ≤ i ∧ i ≤ j + r.length := by
  induction r with
  | nil => intro m j n i h; simp [numL] at h; simp; omega
  | cons c r ih =>
    intro m j n i h
    rw [numL_cons] at h
    split at h
    · cases h2 : stepN m c with
      | none => rw [h2] at h; cases h
      | some k =>
        rw [h2] at h
        have := ih _ _ _ _ h
        simp; omega
    · simp at h; simp; omega
theorem numberL_le {L : List UInt8} {pl n i : Nat} (h : numberL L pl = .inl (n, i)) (hp : pl ≤ L.length) : pl < i ∧ i ≤ L.length := by
  unfold numberL at h
  cases h2 : numL 0 pl (L.drop pl) with
  | inr k => rw [h2] at h; cases h
  | inl q =>
    obtain ⟨a, b⟩ := q
    rw [h2] at h
    simp only at h
    split at h
    · cases h
    · simp at h
      have := numL_le _ _ _ _ _ h2
      simp at this
      omega
theorem drop_get {L : List UInt8} {j : Nat} (h : j < L.length) : L.drop j = L[j] :: L.drop (j + 1) := List.drop_eq_getElem_cons h
end Go.Proofs.YtonphamahnagfaaDoor

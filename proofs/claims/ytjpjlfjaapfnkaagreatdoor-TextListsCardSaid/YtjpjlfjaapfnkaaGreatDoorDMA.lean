/-
  Plain: words, numbers, resources, events, entries. No conditions beyond those that each theorem states.
-/
import Derived.WalkKit
import Derived.ProofKit
import Derived.Lib.ItoaNum
import Derived.Lib.Atoi
import Derived.Lib.AtoiAll
import Derived.Lib.Join
import Derived.Lib.Split
import Derived.Lib.SplitLaws
import Derived.OpenShut
set_option linter.unusedVariables false
set_option linter.unusedSimpArgs false
namespace Go.Proofs.YtjpjlfjaapfnkaaGreatDoor
def spL (c : UInt8) : List UInt8 → List (List UInt8)
 | [] => [[]]
 | x :: r => if x = c then [] :: spL c r else match spL c r with
  | h :: t => (x :: h) :: t
  | [] => [[x]]
def jnL (c : UInt8) : List (List UInt8) → List UInt8
 | [] => []
 | [w] => w
 | w :: v :: ws => w ++ c :: jnL c (v :: ws)
theorem sp_ne (c : UInt8) (L : List UInt8) : spL c L ≠ [] := by
 cases L with
 | nil => simp [spL]
 | cons x r =>
  unfold spL
  split
  ·simp
  ·split <;> simp
theorem jn_cons (c : UInt8) (w : List UInt8) {ws : List (List UInt8)} (h : ws ≠ []) : jnL c (w :: ws) = w ++ c :: jnL c ws := by
 cases ws with
 | nil => exact absurd rfl h
 | cons v vs => rfl
theorem jn_sp (c : UInt8) (L : List UInt8) : jnL c (spL c L) = L := by
 induction L with
 | nil => rfl
 | cons x r ih =>
  have hne := sp_ne c r
  unfold spL
  split
  ·rename_i hx
   rw [jn_cons c [] hne, ih, hx]; rfl
  ·split
   ·rename_i h t ht
    rw [ht] at ih
    cases t with
    | nil => simp only [jnL] at ih ⊢; rw [ih]
    | cons u us => simp only [jnL] at ih ⊢; rw [List.cons_append, ih]
   ·rename_i ht; exact absurd ht hne
theorem sp_no {c : UInt8} {w : List UInt8} (h : c ∉ w) : spL c w = [w] := by
 induction w with
 | nil => rfl
 | cons x r ih =>
  have hx : ¬ x = c := fun e => h (by rw [e]; exact List.mem_cons_self)
  have hr : c ∉ r := fun e => h (List.mem_cons_of_mem _ e)
  unfold spL
  rw [if_neg hx, ih hr]
theorem sp_app {c : UInt8} {w : List UInt8} (h : c ∉ w) (L : List UInt8) : spL c (w ++ c :: L) = w :: spL c L := by
 induction w with
 | nil => simp [spL]
 | cons x r ih =>
  have hx : ¬ x = c := fun e => h (by rw [e]; exact List.mem_cons_self)
  have hr : c ∉ r := fun e => h (List.mem_cons_of_mem _ e)
  rw [List.cons_append, spL, if_neg hx, ih hr]
theorem sp_jn {c : UInt8} {ws : List (List UInt8)} (h : ∀ w ∈ ws, c ∉ w) (hne : ws ≠ []) : spL c (jnL c ws) = ws := by
 induction ws with
 | nil => exact absurd rfl hne
 | cons w vs ih =>
  cases vs with
  | nil => simp only [jnL]; exact sp_no (h w List.mem_cons_self)
  | cons v us =>
   rw [jn_cons c w (by simp), sp_app (h w List.mem_cons_self), ih (fun a ha => h a (List.mem_cons_of_mem _ ha)) (by simp)]
theorem sp_snoc_sep (c : UInt8) (L : List UInt8) : spL c (L ++ [c]) = spL c L ++ [[]] := by
 induction L with
 | nil => simp [spL]
 | cons x r ih =>
  rw [List.cons_append]
  unfold spL
  rw [ih]
  by_cases hx : x = c
  ·rw [if_pos hx, if_pos hx, List.cons_append]
  ·rw [if_neg hx, if_neg hx]
   cases hs : spL c r with
   | nil => exact absurd hs (sp_ne c r)
   | cons a t => rfl
def addLast (x : UInt8) : List (List UInt8) → List (List UInt8)
 | [] => [[x]]
 | [w] => [w ++ [x]]
 | w :: v :: r => w :: addLast x (v :: r)
theorem addLast_cons (x : UInt8) (w : List UInt8) {r : List (List UInt8)} (h : r ≠ []) : addLast x (w :: r) = w :: addLast x r := by
 cases r with
 | nil => exact absurd rfl h
 | cons v vs => rfl
theorem sp_snoc (c x : UInt8) (hx : ¬ x = c) (L : List UInt8) : spL c (L ++ [x]) = addLast x (spL c L) := by
 induction L with
 | nil => simp [spL, hx, addLast]
 | cons y r ih =>
  rw [List.cons_append]
  unfold spL
  rw [ih]
  have hne := sp_ne c r
  by_cases hy : y = c
  ·rw [if_pos hy, if_pos hy, addLast_cons _ _ hne]
  ·rw [if_neg hy, if_neg hy]
   cases hs : spL c r with
   | nil => exact absurd hs hne
   | cons a t =>
    cases t with
    | nil => rfl
    | cons b u => rfl
def decL (n : Nat) : List UInt8 := Lib.decDigits n
def isD (c : UInt8) : Bool := decide (48 ≤ c.toNat) && decide (c.toNat ≤ 57)
theorem isD_iff {c : UInt8} : isD c = true ↔ 48 ≤ c.toNat ∧ c.toNat ≤ 57 := by unfold isD; simp
def valL (m : Nat) (l : List UInt8) : Nat := l.foldl (fun n c => 10 * n + (c.toNat - 48)) m
theorem val_snoc (m : Nat) (l : List UInt8) (c : UInt8) : valL m (l ++ [c]) = 10 * valL m l + (c.toNat - 48) := by simp [valL]
def numT (s : List UInt8) : Option Nat :=
 if s.length < 1 ∨ 8 < s.length ∨ (1 < s.length ∧ s.head? = some 48) then none
 else if s.all isD = true then some (valL 0 s) else none
theorem dd (n : Nat) : decL n = if n < 10 then [UInt8.ofNat (48 + n)] else decL (n / 10) ++ [UInt8.ofNat (48 + n % 10)] := by
 unfold decL
 by_cases h : n < 10
 ·rw [if_pos h, Lib.decDigits, dif_pos h]
 ·rw [if_neg h, Lib.decDigits, dif_neg h]
theorem ofNat_toNat {k : Nat} (h : k < 10) : (UInt8.ofNat (48 + k)).toNat = 48 + k := by
 rw [UInt8.toNat_ofNat']; omega
theorem dec_ind {P : Nat → Prop} (h1 : ∀ n, n < 10 → P n) (h2 : ∀ n, 10 ≤ n → P (n / 10) → P n) (n : Nat) : P n := by
 induction n using Nat.strongRecOn with
 | _ n ih =>
  by_cases h : n < 10
  ·exact h1 n h
  ·exact h2 n (by omega) (ih (n / 10) (by omega))
theorem dec_digits (n : Nat) : (decL n).all isD = true := by
 refine dec_ind (P := fun n => (decL n).all isD = true) ?_ ?_ n
 ·intro n h
  rw [dd, if_pos h]
  have := ofNat_toNat h
  simp only [List.all_cons, List.all_nil, Bool.and_true]
  rw [isD_iff]; omega
 ·intro n h ih
  rw [dd, if_neg (by omega), List.all_append, ih, Bool.true_and]
  have := ofNat_toNat (show n % 10 < 10 by omega)
  simp only [List.all_cons, List.all_nil, Bool.and_true]
  rw [isD_iff]; omega
theorem dec_val (n : Nat) : valL 0 (decL n) = n := by
 refine dec_ind (P := fun n => valL 0 (decL n) = n) ?_ ?_ n
 ·intro n h
  rw [dd, if_pos h]
  simp [valL]; omega
 ·intro n h ih
  rw [dd, if_neg (by omega), val_snoc, ih, ofNat_toNat (by omega)]; omega
theorem dec_pos (n : Nat) : 0 < (decL n).length := by
 rw [dd]; split <;> simp
theorem dec_head {n : Nat} (h : 1 ≤ n) : (decL n).head? ≠ some 48 := by
 revert h
 refine dec_ind (P := fun n => 1 ≤ n → (decL n).head? ≠ some 48) ?_ ?_ n
 ·intro n h h1
  rw [dd, if_pos h]
  have ht := ofNat_toNat h
  intro e
  have he : UInt8.ofNat (48 + n) = 48 := by simpa using e
  rw [he] at ht
  have e2 : (48 : UInt8).toNat = 48 := rfl
  omega
 ·intro n h ih h1
  have := ih (by omega)
  rw [dd, if_neg (by omega)]
  have hp := dec_pos (n / 10)
  cases hd : decL (n / 10) with
  | nil => rw [hd] at hp; simp at hp
  | cons a t => rw [hd] at this; simpa using this
theorem dec_len {n : Nat} : ∀ {k : Nat}, n < 10 ^ k → 1 ≤ k → (decL n).length ≤ k := by
 refine dec_ind (P := fun n => ∀ {k : Nat}, n < 10 ^ k → 1 ≤ k → (decL n).length ≤ k) ?_ ?_ n
 ·intro n h k _ hk
  rw [dd, if_pos h]; simpa using hk
 ·intro n h ih k hk h1
  rw [dd, if_neg (by omega), List.length_append]
  obtain ⟨j, rfl⟩ : ∃ j, k = j + 1 := ⟨k - 1, by omega⟩
  have hj : 1 ≤ j := by
   rcases Nat.eq_zero_or_pos j with q | q
   ·subst q; simp at hk; omega
   ·exact q
  have := ih (k := j) (by rw [Nat.pow_succ] at hk; omega) hj
  simp; omega
theorem val_lt (l : List UInt8) (h : l.all isD = true) : valL 0 l < 10 ^ l.length := by
 have : ∀ l : List UInt8, l.all isD = true → ∀ m, valL m l < (m + 1) * 10 ^ l.length := by
  intro l
  induction l with
  | nil => intro _ m; simp [valL]
  | cons c r ih =>
   intro h m
   rw [List.all_cons, Bool.and_eq_true] at h
   have h1 := isD_iff.1 h.1
   have h2 := ih h.2 (10 * m + (c.toNat - 48))
   show valL (10 * m + (c.toNat - 48)) r < _
   refine Nat.lt_of_lt_of_le h2 ?_
   rw [List.length_cons, Nat.pow_succ, Nat.mul_comm (10 ^ r.length) 10, ← Nat.mul_assoc]
   exact Nat.mul_le_mul_right _ (by omega)
 have := this l h 0
 omega
theorem snoc_ex {α : Type} {l : List α} (h : 0 < l.length) : ∃ p c, l = p ++ [c] := by
 have hne : l ≠ [] := fun e => by rw [e] at h; simp at h
 exact ⟨l.dropLast, l.getLast hne, (List.dropLast_concat_getLast hne).symm⟩
theorem val_dec : ∀ (k : Nat) (l : List UInt8), l.length = k → 0 < k → l.all isD = true → (1 < k → l.head? ≠ some 48) → decL (valL 0 l) = l := by
 intro k
 induction k with
 | zero => intro l _ h; omega
 | succ k ih =>
  intro l hl _ hd hh
  obtain ⟨p, c, rfl⟩ := snoc_ex (l := l) (by omega)
  rw [List.length_append] at hl
  simp only [List.length_cons, List.length_nil] at hl
  rw [List.all_append, Bool.and_eq_true] at hd
  have hc : 48 ≤ c.toNat ∧ c.toNat ≤ 57 := isD_iff.1 (by simpa using hd.2)
  have ec : UInt8.ofNat (48 + (c.toNat - 48)) = c := by
   apply UInt8.toNat_inj.1
   rw [ofNat_toNat (by omega)]; omega
  rw [val_snoc]
  cases hp : p with
  | nil =>
   subst hp
   rw [show valL 0 [] = 0 from rfl, dd, if_pos (by omega), Nat.mul_zero, Nat.zero_add, ec]; rfl
  | cons a t =>
   have hk : 0 < k := by rw [hp] at hl; simp at hl; omega
   have hh1 := hh (by omega)
   rw [hp] at hh1
   have h48 : a ≠ 48 := fun e => hh1 (by simp [e])
   rw [← hp]
   have hrec := ih p (by omega) hk hd.1 (fun _ => by rw [hp]; simpa using h48)
   have hv : 1 ≤ valL 0 p := by
    rcases Nat.eq_zero_or_pos (valL 0 p) with q | q
    ·rw [q] at hrec
     rw [show decL 0 = [48] from by rw [dd, if_pos (by omega)]; rfl, hp] at hrec
     injection hrec with e _
     exact absurd e.symm h48
    ·exact q
   rw [dd, if_neg (by omega), show (10 * valL 0 p + (c.toNat - 48)) / 10 = valL 0 p by omega, show (10 * valL 0 p + (c.toNat - 48)) % 10 = c.toNat - 48 by omega, hrec, ec]
theorem numT_iff {s : List UInt8} {n : Nat} : numT s = some n ↔ s = decL n ∧ n ≤ 99999999 := by
 unfold numT
 constructor
 ·intro h
  split at h
  ·cases h
  ·rename_i hc
   split at h
   ·rename_i hd
    obtain rfl := Option.some.inj h
    have hlt := val_lt s hd
    have hl : s.length ≤ 8 := by omega
    have := Nat.pow_le_pow_right (n := 10) (by decide) hl
    refine ⟨(val_dec s.length s rfl (by omega) hd (fun h1 e => hc (.inr (.inr ⟨h1, e⟩)))).symm, ?_⟩
    have e8 : (10 : Nat) ^ 8 = 100000000 := by decide
    omega
   ·cases h
 ·rintro ⟨rfl, hn⟩
  have hl := dec_len (n := n) (k := 8) (by have e8 : (10 : Nat) ^ 8 = 100000000 := by decide
                                           omega) (by decide)
  have hp := dec_pos n
  rw [if_neg, if_pos (dec_digits n), dec_val]
  rintro (h | h | ⟨h1, h2⟩)
  ·omega
  ·omega
  ·rcases Nat.lt_or_ge n 1 with q | q
   ·obtain rfl : n = 0 := by omega
    rw [dd, if_pos (by omega)] at h1; simp at h1
   ·exact dec_head q h2
theorem dec_num {n : Nat} (h : n ≤ 99999999) : numT (decL n) = some n := numT_iff.2 ⟨rfl, h⟩
theorem dec_no {n : Nat} {c : UInt8} (hc : ¬ isD c = true) : c ∉ decL n := fun h => hc (List.all_eq_true.1 (dec_digits n) c h)
def modeL (m : Nat) : List UInt8 := if m = 1 then [73, 83] else if m = 2 then [73, 88] else if m = 3 then [83] else if m = 4 then [88] else []
def modeT (s : List UInt8) : Nat := if s = [73, 83] then 1 else if s = [73, 88] then 2 else if s = [83] then 3 else if s = [88] then 4 else 0
theorem mode_of {m : Nat} (h1 : 1 ≤ m) (h2 : m ≤ 4) : modeT (modeL m) = m := by
 have : m = 1 ∨ m = 2 ∨ m = 3 ∨ m = 4 := by omega
 rcases this with rfl | rfl | rfl | rfl <;> rfl
theorem mode_is {s : List UInt8} (h : 1 ≤ modeT s) : modeL (modeT s) = s ∧ modeT s ≤ 4 := by
 unfold modeT at h ⊢
 split at h
 ·rename_i e; subst e; exact ⟨rfl, by decide⟩
 ·split at h
  ·rename_i _ e; subst e; exact ⟨rfl, by decide⟩
  ·split at h
   ·rename_i _ _ e; subst e; exact ⟨rfl, by decide⟩
   ·split at h
    ·rename_i _ _ _ e; subst e; exact ⟨rfl, by decide⟩
    ·omega
end Go.Proofs.YtjpjlfjaapfnkaaGreatDoor
namespace Go.Proofs.YtjpjlfjaapfnkaaGreatDoor
open Go.ChangeShapes Go.WideShapes Go.ChangeAt Go.RowKit
theorem snoc_ind {α : Type} {P : List α → Prop} (h0 : P []) (h1 : ∀ a c, P a → P (a ++ [c])) (l : List α) : P l := by
 have h : ∀ r : List α, P r.reverse := by
  intro r
  induction r with
  | nil => exact h0
  | cons c r ih => rw [List.reverse_cons]; exact h1 _ _ ih
 have := h l.reverse
 rwa [List.reverse_reverse] at this
def dg (k : Nat) : UInt8 := UInt8.ofNat (48 + k)
def digL (n : Nat) : List UInt8 := if n < 10 then [dg n] else if n < 100 then [dg (n / 10), dg (n % 10)] else [dg (n / 100), dg (n / 10 % 10), dg (n % 10)]
def textL (t r : Nat) : List UInt8 := if r = 0 then digL t else digL t ++ 46 :: digL r
def goN (p : List UInt8) (r : Nat) : Bool := decide (p.length ≤ (digL r).length) && decide ((digL r).take p.length = p)
def goT (p : List UInt8) (t : Nat) : Bool :=
 if p.length ≤ (digL t).length then decide ((digL t).take p.length = p)
 else decide (p.take (digL t).length = digL t) && decide (p[(digL t).length]? = some 46) && (List.range 250).any fun r => goN (p.drop ((digL t).length + 1)) (r + 1)
def goesL (p : List UInt8) : Bool := (List.range 250).any fun t => goT p (t + 1)
def stepN (m : Nat) (c : UInt8) : Option Nat := if 48 ≤ c.toNat ∧ c.toNat ≤ 57 then (if 1 ≤ 10 * m + (c.toNat - 48) ∧ 10 * m + (c.toNat - 48) ≤ 250 then some (10 * m + (c.toNat - 48)) else none) else none
def nr (m : Nat) : List UInt8 → Option Nat
 | [] => some m
 | c :: r => match stepN m c with
  | some m' => nr m' r
  | none => none
theorem nr_append (a b : List UInt8) : ∀ m, nr m (a ++ b) = (nr m a).bind fun k => nr k b := by
 induction a with
 | nil => intro m; rfl
 | cons c a ih =>
  intro m
  simp only [List.cons_append, nr]
  cases stepN m c with
  | none => rfl
  | some k => exact ih k
theorem nr_dig : ∀ t, t < 250 → nr 0 (digL (t + 1)) = some (t + 1) := by decide +kernel
theorem nr_prefix {a b : List UInt8} {m k : Nat} (h : nr m (a ++ b) = some k) : ∃ j, nr m a = some j := by
 rw [nr_append] at h
 cases h' : nr m a with
 | none => rw [h'] at h; cases h
 | some j => exact ⟨j, rfl⟩
theorem stepN_some {m k : Nat} {c : UInt8} (h : stepN m c = some k) : 48 ≤ c.toNat ∧ c.toNat ≤ 57 ∧ k = 10 * m + (c.toNat - 48) ∧ 1 ≤ k ∧ k ≤ 250 := by
 unfold stepN at h
 split at h
 ·rename_i h1
  split at h
  ·rename_i h2
   simp only [Option.some.injEq] at h
   omega
  ·cases h
 ·cases h
theorem dg_of {c : UInt8} (h1 : 48 ≤ c.toNat) (h2 : c.toNat ≤ 57) : c = dg (c.toNat - 48) := by
 unfold dg
 rw [show 48 + (c.toNat - 48) = c.toNat by omega]
 exact (UInt8.ofNat_toNat).symm
theorem dig_step : ∀ n, n < 26 → ∀ d, d < 10 → 1 ≤ 10 * n + d → 10 * n + d ≤ 250 → digL (10 * n + d) = (if n = 0 then [] else digL n) ++ [dg d] := by decide +kernel
inductive St
 | tab (n : Nat)
 | row (n m : Nat)
 deriving DecidableEq
def step : St → UInt8 → Option St
 | .tab n, c => if c.toNat = 46 ∧ 1 ≤ n then some (.row n 0) else (stepN n c).map .tab
 | .row n m, c => (stepN m c).map (.row n)
def run (s : St) : List UInt8 → Option St
 | [] => some s
 | c :: r => match step s c with
  | some s' => run s' r
  | none => none
theorem run_append (a b : List UInt8) : ∀ s, run s (a ++ b) = (run s a).bind fun k => run k b := by
 induction a with
 | nil => intro m; rfl
 | cons c a ih =>
  intro m
  simp only [List.cons_append, run]
  cases step m c with
  | none => rfl
  | some k => exact ih k
theorem step_tab {n : Nat} {c : UInt8} {k : Nat} (h : stepN n c = some k) : step (.tab n) c = some (.tab k) := by
 obtain ⟨h1, _⟩ := stepN_some h
 simp only [step]
 rw [if_neg (by omega), h]; rfl
theorem run_tab (a : List UInt8) : ∀ n k, nr n a = some k → run (.tab n) a = some (.tab k) := by
 induction a with
 | nil => intro n k h; simp [nr] at h; subst h; rfl
 | cons c a ih =>
  intro n k h
  simp only [nr] at h
  cases h2 : stepN n c with
  | none => rw [h2] at h; cases h
  | some m =>
   rw [h2] at h
   simp only [run, step_tab h2]
   exact ih m k h
theorem run_row (a : List UInt8) : ∀ t n, run (.row t n) a = (nr n a).map (.row t) := by
 induction a with
 | nil => intro t n; rfl
 | cons c a ih =>
  intro t n
  simp only [run, step, nr]
  cases h2 : stepN n c with
  | none => rfl
  | some m => exact ih t m
theorem run_dot {a : List UInt8} {n : Nat} (h : nr 0 a = some n) (h1 : 1 ≤ n) (k : List UInt8) : run (.tab 0) (a ++ 46 :: k) = (nr 0 k).map (.row n) := by
 rw [run_append, run_tab a 0 n h]
 simp only [Option.bind_some, run, step]
 rw [if_pos ⟨by decide, h1⟩]
 exact run_row k n 0
theorem run_text {t r : Nat} (ht : 1 ≤ t ∧ t ≤ 250) (hr : r ≤ 250) : run (.tab 0) (textL t r) = some (if r = 0 then .tab t else .row t r) := by
 have h1 := nr_dig (t - 1) (by omega)
 rw [show t - 1 + 1 = t by omega] at h1
 unfold textL
 by_cases h : r = 0
 ·rw [if_pos h, if_pos h]; exact run_tab _ _ _ h1
 ·have h2 := nr_dig (r - 1) (by omega)
  rw [show r - 1 + 1 = r by omega] at h2
  rw [if_neg h, if_neg h, run_dot h1 ht.1, h2]; rfl
theorem run_is (p : List UInt8) : ∀ s, run (.tab 0) p = some s → (∃ n, s = .tab n ∧ p = (if n = 0 then [] else digL n) ∧ n ≤ 250) ∨ ∃ n m, s = .row n m ∧ 1 ≤ n ∧ n ≤ 250 ∧ m ≤ 250 ∧ p = digL n ++ 46 :: (if m = 0 then [] else digL m) := by
 refine snoc_ind (P := fun p => ∀ s, run (.tab 0) p = some s → (∃ n, s = .tab n ∧ p = (if n = 0 then [] else digL n) ∧ n ≤ 250) ∨ ∃ n m, s = .row n m ∧ 1 ≤ n ∧ n ≤ 250 ∧ m ≤ 250 ∧ p = digL n ++ 46 :: (if m = 0 then [] else digL m)) ?_ ?_ p
 ·intro s h; simp [run] at h; subst h; exact .inl ⟨0, rfl, rfl, by omega⟩
 ·intro p c ih s h
  rw [run_append] at h
  cases h' : run (.tab 0) p with
  | none => rw [h'] at h; cases h
  | some s0 =>
   rw [h'] at h
   simp only [Option.bind_some, run] at h
   rcases ih s0 h' with ⟨n, rfl, hp, hn⟩ | ⟨n, m, rfl, hn1, hn2, hm, hp⟩
   ·simp only [step] at h
    by_cases hd : c.toNat = 46 ∧ 1 ≤ n
    ·rw [if_pos hd] at h
     simp only [Option.some.injEq] at h
     subst h
     refine .inr ⟨n, 0, rfl, hd.2, hn, by omega, ?_⟩
     rw [hp, if_neg (by omega), if_pos rfl]
     have : c = 46 := by
      have := UInt8.ofNat_toNat (x := c)
      rw [hd.1] at this; exact this.symm
     rw [this]
    ·rw [if_neg hd] at h
     cases h2 : stepN n c with
     | none => rw [h2] at h; cases h
     | some k =>
      rw [h2] at h
      simp only [Option.map_some, Option.some.injEq] at h
      subst h
      obtain ⟨d1, d2, d3, d4, d5⟩ := stepN_some h2
      refine .inl ⟨k, rfl, ?_, d5⟩
      rw [if_neg (by omega), d3, dig_step n (by omega) (c.toNat - 48) (by omega) (by omega) (by omega), ← hp, ← dg_of d1 d2]
   ·simp only [step] at h
    cases h2 : stepN m c with
    | none => rw [h2] at h; cases h
    | some k =>
     rw [h2] at h
     simp only [Option.map_some, Option.some.injEq] at h
     subst h
     obtain ⟨d1, d2, d3, d4, d5⟩ := stepN_some h2
     refine .inr ⟨n, k, rfl, hn1, hn2, d5, ?_⟩
     rw [hp, if_neg (show k ≠ 0 by omega), d3, dig_step m (by omega) (c.toNat - 48) (by omega) (by omega) (by omega), ← dg_of d1 d2]
     simp
theorem goN_iff {p : List UInt8} {r : Nat} : goN p r = true ↔ ∃ q, digL r = p ++ q := by
 unfold goN
 simp only [Bool.and_eq_true, decide_eq_true_eq]
 constructor
 ·rintro ⟨h0, h⟩
  have e := (List.take_append_drop p.length (digL r)).symm
  rw [h] at e
  exact ⟨_, e⟩
 ·rintro ⟨q, h⟩
  rw [h]; simp
theorem goT_iff {p : List UInt8} {t : Nat} : goT p t = true ↔ (∃ q, digL t = p ++ q) ∨ ∃ k, p = digL t ++ 46 :: k ∧ ∃ r, r < 250 ∧ goN k (r + 1) = true := by
 unfold goT
 by_cases h : p.length ≤ (digL t).length
 ·rw [if_pos h]
  simp only [decide_eq_true_eq]
  constructor
  ·intro h2
   have e := (List.take_append_drop p.length (digL t)).symm
   rw [h2] at e
   exact .inl ⟨_, e⟩
  ·rintro (⟨q, h2⟩ | ⟨k, h2, _⟩)
   ·rw [h2]; simp
   ·rw [h2] at h; simp at h; omega
 ·rw [if_neg h]
  simp only [Bool.and_eq_true, decide_eq_true_eq, List.any_eq_true, List.mem_range]
  constructor
  ·rintro ⟨⟨h1, h2⟩, r, h3, h4⟩
   refine .inr ⟨p.drop ((digL t).length + 1), ?_, r, h3, h4⟩
   have hl : (digL t).length < p.length := by omega
   rw [List.getElem?_eq_getElem hl, Option.some.injEq] at h2
   rw [← h2, ← List.drop_eq_getElem_cons hl]
   conv => lhs; rw [← List.take_append_drop (digL t).length p, h1]
  ·rintro (⟨q, h2⟩ | ⟨k, h2, r, h3, h4⟩)
   ·rw [h2] at h; simp at h
   ·subst h2
    refine ⟨⟨by simp, by simp⟩, r, h3, ?_⟩
    rw [show (digL t ++ 46 :: k).drop ((digL t).length + 1) = k by rw [← List.drop_drop]; simp]
    exact h4
theorem goes_iff {p : List UInt8} (hp : p ≠ []) : goesL p = true ↔ (run (.tab 0) p).isSome = true := by
 unfold goesL
 simp only [List.any_eq_true, List.mem_range]
 constructor
 ·rintro ⟨t, ht, h⟩
  rcases goT_iff.1 h with ⟨q, h2⟩ | ⟨k, h2, r, hr, h3⟩
  ·have := nr_dig t ht
   rw [h2] at this
   obtain ⟨j, hj⟩ := nr_prefix this
   rw [run_tab _ _ _ hj]; rfl
  ·obtain ⟨q, h4⟩ := goN_iff.1 h3
   have := nr_dig r hr
   rw [h4] at this
   obtain ⟨j, hj⟩ := nr_prefix this
   rw [h2, run_dot (nr_dig t ht) (by omega), hj]; rfl
 ·intro h
  obtain ⟨s, hs⟩ := Option.isSome_iff_exists.1 h
  rcases run_is p s hs with ⟨n, rfl, h1, h2⟩ | ⟨n, m, rfl, h1, h2, h3, h4⟩
  ·have hn : n ≠ 0 := by
    intro h0
    rw [if_pos h0] at h1
    exact hp h1
   rw [if_neg hn] at h1
   exact ⟨n - 1, by omega, goT_iff.2 (.inl ⟨[], by rw [show n - 1 + 1 = n by omega, h1]; simp⟩)⟩
  ·refine ⟨n - 1, by omega, goT_iff.2 (.inr ⟨_, by rw [show n - 1 + 1 = n by omega]; exact h4, ?_⟩)⟩
   by_cases hm : m = 0
   ·exact ⟨0, by omega, goN_iff.2 ⟨digL 1, by rw [if_pos hm]; rfl⟩⟩
   ·exact ⟨m - 1, by omega, goN_iff.2 ⟨[], by rw [if_neg hm, show m - 1 + 1 = m by omega]; simp⟩⟩
theorem dig_len (n : Nat) : (digL n).length ≤ 3 := by
 unfold digL
 split
 ·simp
 ·split <;> simp
theorem run_len {p : List UInt8} (h : (run (.tab 0) p).isSome = true) : p.length ≤ 7 := by
 obtain ⟨s, hs⟩ := Option.isSome_iff_exists.1 h
 rcases run_is p s hs with ⟨n, rfl, h1, h2⟩ | ⟨n, m, rfl, h1, h2, h3, h4⟩
 ·rw [h1]
  have := dig_len n
  split
  ·simp
  ·omega
 ·rw [h4]
  have := dig_len n
  have := dig_len m
  split <;> simp <;> omega
def stops (s : St) (i : Nat) : List UInt8 → Nat
 | [] => i
 | c :: r => match step s c with
  | some s' => stops s' (i + 1) r
  | none => i
def readL (L : List UInt8) : (Nat × Nat) ⊕ Nat :=
 match run (.tab 0) L with
 | some (.tab n) => if n = 0 then .inr L.length else .inl (n, 0)
 | some (.row n m) => if m = 0 then .inr L.length else .inl (n, m)
 | none => .inr (stops (.tab 0) 0 L)
theorem stops_at (L : List UInt8) : ∀ s i, run s L = none → i ≤ stops s i L ∧ stops s i L < i + L.length ∧ (run s (L.take (stops s i L - i))).isSome = true ∧ (run s (L.take (stops s i L - i + 1))).isSome = false := by
 induction L with
 | nil => intro s i h; simp [run] at h
 | cons c r ih =>
  intro s i h
  simp only [run] at h
  simp only [stops]
  cases h2 : step s c with
  | none => simp [run, h2]
  | some s' =>
   rw [h2] at h
   simp only
   obtain ⟨h3, h4, h5, h6⟩ := ih s' (i + 1) h
   generalize stops s' (i + 1) r = j at *
   refine ⟨by omega, by simp; omega, ?_, ?_⟩
   ·rw [show j - i = (j - (i + 1)) + 1 by omega, List.take_succ_cons]
    simp only [run, h2]; exact h5
   ·rw [show j - i + 1 = (j - (i + 1) + 1) + 1 by omega, List.take_succ_cons]
    simp only [run, h2]; exact h6
theorem run_take {L : List UInt8} {s : St} {i j : Nat} (h : (run s (L.take j)).isSome = true) (hij : i ≤ j) : (run s (L.take i)).isSome = true := by
 rw [show L.take j = (L.take j).take i ++ (L.take j).drop i from (List.take_append_drop _ _).symm, run_append, List.take_take, Nat.min_eq_left hij] at h
 cases h' : run s (L.take i) with
 | none => rw [h'] at h; cases h
 | some k => rfl
def numL (n i : Nat) : List UInt8 → (Nat × Nat) ⊕ Nat
 | [] => .inl (n, i)
 | c :: r => if 48 ≤ c.toNat ∧ c.toNat ≤ 57 then (match stepN n c with
  | some k => numL k (i + 1) r
  | none => .inr i) else .inl (n, i)
def numberL (L : List UInt8) (pl : Nat) : (Nat × Nat) ⊕ Nat :=
 match numL 0 pl (L.drop pl) with
 | .inr i => .inr i
 | .inl (n, i) => if i = pl then .inr i else .inl (n, i)
theorem numL_cons {n i : Nat} {c : UInt8} {r : List UInt8} : numL n i (c :: r) = if 48 ≤ c.toNat ∧ c.toNat ≤ 57 then (match stepN n c with
 | some k => numL k (i + 1) r
 | none => .inr i) else .inl (n, i) := rfl
def parseL (L : List UInt8) : (Nat × Nat) ⊕ Nat :=
 match numberL L 0 with
 | .inr i => .inr i
 | .inl (n, i) => if i = L.length then .inl (n, 0) else if L[i]? ≠ some 46 then .inr i else
  match numberL L (i + 1) with
  | .inr j => .inr j
  | .inl (r, j) => if j < L.length then .inr j else .inl (n, r)
theorem numL_le (r : List UInt8) : ∀ m j n i, numL m j r = .inl (n, i) → j ≤ i ∧ i ≤ j + r.length := by
 induction r with
 | nil => intro m j n i h; simp [numL] at h; simp; omega
 | cons c r ih =>
  intro m j n i h
  rw [numL_cons] at h
  split at h
  ·cases h2 : stepN m c with
   | none => rw [h2] at h; cases h
   | some k =>
    rw [h2] at h
    have := ih _ _ _ _ h
    simp; omega
  ·simp at h; simp; omega
theorem numberL_le {L : List UInt8} {pl n i : Nat} (h : numberL L pl = .inl (n, i)) (hp : pl ≤ L.length) : pl < i ∧ i ≤ L.length := by
 unfold numberL at h
 cases h2 : numL 0 pl (L.drop pl) with
 | inr k => rw [h2] at h; cases h
 | inl q =>
  obtain ⟨a, b⟩ := q
  rw [h2] at h
  simp only at h
  split at h
  ·cases h
  ·simp at h
   have := numL_le _ _ _ _ _ h2
   simp at this
   omega
theorem drop_get {L : List UInt8} {j : Nat} (h : j < L.length) : L.drop j = L[j] :: L.drop (j + 1) := List.drop_eq_getElem_cons h
end Go.Proofs.YtjpjlfjaapfnkaaGreatDoor
namespace Go.Proofs.YtjpjlfjaapfnkaaGreatDoor
open Go.ChangeShapes Go.WideShapes Go.ChangeAt Go.RowKit
theorem run_none_of {L : List UInt8} {i : Nat} {s : St} (h : (run s (L.take i)).isSome = false) : run s L = none := by
 rw [show L = L.take i ++ L.drop i from (List.take_append_drop _ _).symm, run_append]
 cases h' : run s (L.take i) with
 | none => rfl
 | some k => rw [h'] at h; cases h
theorem readL_fault {L : List UInt8} {i : Nat} (h1 : (run (.tab 0) (L.take i)).isSome = true) (h2 : (run (.tab 0) (L.take (i + 1))).isSome = false) : readL L = .inr i := by
 have hn := run_none_of h2
 obtain ⟨_, _, h3, h4⟩ := stops_at L (.tab 0) 0 hn
 simp only [Nat.sub_zero] at h3 h4
 unfold readL
 rw [hn]
 simp only
 rcases Nat.lt_trichotomy (stops (.tab 0) 0 L) i with h | h | h
 ·rw [run_take h1 (show stops (.tab 0) 0 L + 1 ≤ i by omega)] at h4; cases h4
 ·rw [h]
 ·rw [run_take h3 (show i + 1 ≤ stops (.tab 0) 0 L by omega)] at h2; cases h2
theorem readL_text {L : List UInt8} {t r : Nat} (ht : 1 ≤ t ∧ t ≤ 250) (hr : r ≤ 250) (h : textL t r = L) : readL L = .inl (t, r) := by
 unfold readL
 rw [← h, run_text ht hr]
 by_cases h0 : r = 0
 ·subst h0; simp; omega
 ·rw [if_neg h0]; simp [h0]
theorem readL_none {L : List UInt8} (h : (run (.tab 0) L).isSome = true) (hn : ∀ t r, 1 ≤ t → t ≤ 250 → r ≤ 250 → textL t r ≠ L) : readL L = .inr L.length := by
 obtain ⟨s, hs⟩ := Option.isSome_iff_exists.1 h
 unfold readL
 rw [hs]
 rcases run_is L s hs with ⟨n, rfl, h1, h2⟩ | ⟨n, m, rfl, h1, h2, h3, h4⟩
 ·by_cases h0 : n = 0
  ·simp [h0]
  ·rw [if_neg h0] at h1
   exact absurd (by unfold textL; rw [if_pos rfl]; exact h1.symm) (hn n 0 (by omega) h2 (by omega))
 ·by_cases h0 : m = 0
  ·simp [h0]
  ·rw [if_neg h0] at h4
   exact absurd (by unfold textL; rw [if_neg h0]; exact h4.symm) (hn n m h1 h2 h3)
def isDg (c : UInt8) : Prop := 48 ≤ c.toNat ∧ c.toNat ≤ 57
theorem stepN_no {m : Nat} {c : UInt8} (h : ¬ isDg c) : stepN m c = none := by unfold stepN; exact if_neg h
theorem step_dg {m : Nat} {c : UInt8} (h : isDg c) : step (.tab m) c = (stepN m c).map .tab := by
 simp only [step]; unfold isDg at h
 rw [if_neg (by omega)]
theorem numL_tab (r : List UInt8) : ∀ m j, (∀ i, numL m j r = .inr i → run (.tab m) r = none ∧ stops (.tab m) j r = i) ∧
 (∀ n i, numL m j r = .inl (n, i) → j ≤ i ∧ (i = j → n = m) ∧ (j < i → 1 ≤ n) ∧ run (.tab m) r = run (.tab n) (r.drop (i - j)) ∧ stops (.tab m) j r = stops (.tab n) i (r.drop (i - j)) ∧ ∀ c ∈ (r.drop (i - j)).head?, ¬ isDg c) := by
 induction r with
 | nil => intro m j; exact ⟨fun i h => by simp [numL] at h, fun n i h => by simp [numL] at h; obtain ⟨rfl, rfl⟩ := h; simp⟩
 | cons c r ih =>
  intro m j
  rw [numL_cons]
  by_cases hd : 48 ≤ c.toNat ∧ c.toNat ≤ 57
  ·rw [if_pos hd]
   have hs := step_dg (m := m) (c := c) hd
   cases h2 : stepN m c with
   | none =>
    rw [h2] at hs
    refine ⟨fun i h => ?_, fun n i h => by simp at h⟩
    simp at h; subst h
    simp only [run, stops, hs, Option.map_none]
    exact ⟨trivial, trivial⟩
   | some k =>
    rw [h2] at hs
    obtain ⟨h3, h4⟩ := ih k (j + 1)
    refine ⟨fun i h => ?_, fun n i h => ?_⟩
    ·simp only [run, stops, hs, Option.map_some]; exact h3 i h
    ·obtain ⟨a1, a2, a3, a4, a5, a6⟩ := h4 n i h
     have e : i - j = (i - (j + 1)) + 1 := by omega
     rw [e, List.drop_succ_cons]
     simp only [run, stops, hs, Option.map_some]
     refine ⟨by omega, fun h => by omega, fun _ => ?_, a4, a5, a6⟩
     by_cases hij : j + 1 < i
     ·exact a3 hij
     ·rw [a2 (by omega)]; exact (stepN_some h2).2.2.2.1
  ·rw [if_neg hd]
   refine ⟨fun i h => by simp at h, fun n i h => ?_⟩
   simp at h
   obtain ⟨rfl, rfl⟩ := h
   simp
   exact hd
theorem numL_row (t : Nat) (r : List UInt8) : ∀ m j, (∀ i, numL m j r = .inr i → run (.row t m) r = none ∧ stops (.row t m) j r = i) ∧
 (∀ n i, numL m j r = .inl (n, i) → j ≤ i ∧ (i = j → n = m) ∧ (j < i → 1 ≤ n) ∧ run (.row t m) r = run (.row t n) (r.drop (i - j)) ∧ stops (.row t m) j r = stops (.row t n) i (r.drop (i - j)) ∧ ∀ c ∈ (r.drop (i - j)).head?, ¬ isDg c) := by
 induction r with
 | nil => intro m j; exact ⟨fun i h => by simp [numL] at h, fun n i h => by simp [numL] at h; obtain ⟨rfl, rfl⟩ := h; simp⟩
 | cons c r ih =>
  intro m j
  rw [numL_cons]
  have hs : step (.row t m) c = (stepN m c).map (.row t) := rfl
  by_cases hd : 48 ≤ c.toNat ∧ c.toNat ≤ 57
  ·rw [if_pos hd]
   cases h2 : stepN m c with
   | none =>
    rw [h2] at hs
    refine ⟨fun i h => ?_, fun n i h => by simp at h⟩
    simp at h; subst h
    simp only [run, stops, hs, Option.map_none]
    exact ⟨trivial, trivial⟩
   | some k =>
    rw [h2] at hs
    obtain ⟨h3, h4⟩ := ih k (j + 1)
    refine ⟨fun i h => ?_, fun n i h => ?_⟩
    ·simp only [run, stops, hs, Option.map_some]; exact h3 i h
    ·obtain ⟨a1, a2, a3, a4, a5, a6⟩ := h4 n i h
     have e : i - j = (i - (j + 1)) + 1 := by omega
     rw [e, List.drop_succ_cons]
     simp only [run, stops, hs, Option.map_some]
     refine ⟨by omega, fun h => by omega, fun _ => ?_, a4, a5, a6⟩
     by_cases hij : j + 1 < i
     ·exact a3 hij
     ·rw [a2 (by omega)]; exact (stepN_some h2).2.2.2.1
  ·rw [if_neg hd]
   refine ⟨fun i h => by simp at h, fun n i h => ?_⟩
   simp at h
   obtain ⟨rfl, rfl⟩ := h
   simp
   exact hd
theorem readL_of {L : List UInt8} {s : St} {R : List UInt8} {i : Nat} (h1 : run (.tab 0) L = run s R) (h2 : stops (.tab 0) 0 L = stops s i R) :
 readL L = match run s R with
 | some (.tab n) => if n = 0 then .inr L.length else .inl (n, 0)
 | some (.row n m) => if m = 0 then .inr L.length else .inl (n, m)
 | none => .inr (stops s i R) := by
 unfold readL; rw [h1, h2]; try rfl
theorem parse_eq (L : List UInt8) : parseL L = readL L := by
 unfold parseL numberL
 rw [List.drop_zero]
 obtain ⟨hA, hB⟩ := numL_tab L 0 0
 cases h : numL 0 0 L with
 | inr i =>
  obtain ⟨h1, h2⟩ := hA i h
  unfold readL; rw [h1, h2]
 | inl q =>
  obtain ⟨n, i⟩ := q
  obtain ⟨a1, a2, a3, a4, a5, a6⟩ := hB n i h
  rw [Nat.sub_zero] at a4 a5 a6
  rw [readL_of a4 a5]
  simp only
  by_cases hi0 : i = 0
  ·subst hi0
   have hn := a2 rfl
   subst hn
   rw [if_pos rfl, List.drop_zero]
   cases L with
   | nil => simp [run]
   | cons c r =>
    have hc := a6 c (by simp)
    have hs : step (.tab 0) c = none := by simp only [step]; rw [if_neg (by omega), stepN_no hc]; rfl
    simp [run, stops, hs]
  ·rw [if_neg hi0]
   have hn := a3 (by omega)
   have hle := numL_le L 0 0 n i h
   simp only
   by_cases hil : i = L.length
   ·rw [if_pos hil, List.drop_of_length_le (by omega)]
    simp only [run]
    rw [if_neg (by omega)]
   ·rw [if_neg hil]
    have hlt : i < L.length := by omega
    have hd := drop_get (L := L) (j := i) hlt
    rw [hd] at a6 ⊢
    have hc := a6 L[i] (by simp)
    rw [List.getElem?_eq_getElem hlt]
    by_cases h46 : L[i] = 46
    ·rw [if_neg (by simp [h46])]
     have hs : step (.tab n) L[i] = some (.row n 0) := by simp only [step]; rw [if_pos ⟨by rw [h46]; rfl, hn⟩]
     simp only [run, stops, hs]
     obtain ⟨hC, hD⟩ := numL_row n (L.drop (i + 1)) 0 (i + 1)
     cases h5 : numL 0 (i + 1) (L.drop (i + 1)) with
     | inr j =>
      obtain ⟨h6, h7⟩ := hC j h5
      rw [h6, h7]
     | inl q =>
      obtain ⟨r, j⟩ := q
      obtain ⟨b1, b2, b3, b4, b5, b6⟩ := hD r j h5
      have hle2 := numL_le _ _ _ _ _ h5
      rw [List.length_drop] at hle2
      rw [b4, b5]
      rw [List.drop_drop, show i + 1 + (j - (i + 1)) = j by omega] at b6 ⊢
      simp only
      by_cases hj : j = i + 1
      ·rw [if_pos hj]
       have hr := b2 hj
       subst hr
       by_cases hjl : j = L.length
       ·rw [List.drop_of_length_le (by omega)]
        simp [run, hjl]
       ·have hd2 := drop_get (L := L) (j := j) (by omega)
        rw [hd2] at b6 ⊢
        have hs2 : step (.row n 0) L[j] = none := by
         have := stepN_no (m := 0) (b6 L[j] (by simp))
         simp only [step, this]; rfl
        simp [run, stops, hs2]
      ·rw [if_neg hj]
       have hr := b3 (by omega)
       simp only
       by_cases hjl : j < L.length
       ·rw [if_pos hjl]
        have hd2 := drop_get (L := L) (j := j) hjl
        rw [hd2] at b6 ⊢
        have hs2 : step (.row n r) L[j] = none := by
         have := stepN_no (m := r) (b6 L[j] (by simp))
         simp only [step, this]; rfl
        simp [run, stops, hs2]
       ·rw [if_neg hjl, List.drop_of_length_le (by omega)]
        simp only [run]
        rw [if_neg (by omega)]
    ·rw [if_pos (by simp [h46])]
     have hs : step (.tab n) L[i] = none := by
      have h46' : ¬ (L[i].toNat = 46 ∧ 1 ≤ n) := fun hh => h46 (by have := UInt8.ofNat_toNat (x := L[i]); rw [hh.1] at this; exact this.symm)
      simp only [step]; rw [if_neg h46', stepN_no hc]; rfl
     simp [run, stops, hs]
end Go.Proofs.YtjpjlfjaapfnkaaGreatDoor
namespace Go.Proofs.YtjpjlfjaapfnkaaGreatDoor.C20
def okB (m : Int) : Bool := decide (0 ≤ m ∧ m ≤ 4)
def covT (n : Nat) : Bool := ([true, false, false, false, false, true, true, false, false, false, true, true, true, false, false, true, true, false, true, false, true, true, true, true, true] : List Bool).getD n false
def togT (n : Nat) : Bool := ([true, true, true, true, true, true, true, true, true, false, true, true, true, false, false, true, true, false, true, false, true, false, false, false, false] : List Bool).getD n false
def covB (a b : Int) : Bool := if 0 ≤ a ∧ a ≤ 4 ∧ 0 ≤ b ∧ b ≤ 4 then covT (5 * a + b).toNat else false
def togB (a b : Int) : Bool := if 0 ≤ a ∧ a ≤ 4 ∧ 0 ≤ b ∧ b ≤ 4 then togT (5 * a + b).toNat else false
def leastI (a b : Int) : Int := if covB 0 a && covB 0 b then 0 else if covB 1 a && covB 1 b then 1 else if covB 2 a && covB 2 b then 2 else if covB 3 a && covB 3 b then 3 else 4
def needI (m : Int) : Int := if m = 3 then 1 else if m = 4 then 2 else 0
def needE (m : Int) : Int := if m = 1 ∨ m = 2 then 12 else if 0 ≤ m ∧ m ≤ 4 then 0 else 1
theorem five {P : Int → Prop} (h0 : P 0) (h1 : P 1) (h2 : P 2) (h3 : P 3) (h4 : P 4) (a : Int) (h : 0 ≤ a ∧ a ≤ 4) : P a := by
 obtain rfl | rfl | rfl | rfl | rfl : a = 0 ∨ a = 1 ∨ a = 2 ∨ a = 3 ∨ a = 4 := by omega
 all_goals assumption
theorem each {p : Int → Bool} (h : (p 0 && p 1 && p 2 && p 3 && p 4) = true) (a : Int) (ha : 0 ≤ a ∧ a ≤ 4) : p a = true := by
 simp only [Bool.and_eq_true] at h
 obtain ⟨⟨⟨⟨h0, h1⟩, h2⟩, h3⟩, h4⟩ := h
 exact five (P := fun a => p a = true) h0 h1 h2 h3 h4 a ha
def allB (p : Int → Bool) : Bool := p 0 && p 1 && p 2 && p 3 && p 4
theorem all2 {p : Int → Int → Bool} (h : allB (fun a => allB (p a)) = true) (a b : Int) (ha : 0 ≤ a ∧ a ≤ 4) (hb : 0 ≤ b ∧ b ≤ 4) : p a b = true :=
 each (p := p a) (each (p := fun a => allB (p a)) h a ha) b hb
theorem all3 {p : Int → Int → Int → Bool} (h : allB (fun a => allB fun b => allB (p a b)) = true) (a b c : Int) (ha : 0 ≤ a ∧ a ≤ 4) (hb : 0 ≤ b ∧ b ≤ 4) (hc : 0 ≤ c ∧ c ≤ 4) : p a b c = true :=
 each (p := p a b) (all2 (p := fun a b => allB (p a b)) h a b ha hb) c hc
theorem covB_out {a b : Int} (h : ¬ (0 ≤ a ∧ a ≤ 4 ∧ 0 ≤ b ∧ b ≤ 4)) : covB a b = false := if_neg h
theorem togB_out {a b : Int} (h : ¬ (0 ≤ a ∧ a ≤ 4 ∧ 0 ≤ b ∧ b ≤ 4)) : togB a b = false := if_neg h
theorem leastI_in (a b : Int) : 0 ≤ leastI a b ∧ leastI a b ≤ 4 := by
 unfold leastI; repeat' split
 all_goals omega
theorem least_step (a b m : Int) (ha : 0 ≤ a ∧ a ≤ 4) (hb : 0 ≤ b ∧ b ≤ 4) (hm : 0 ≤ m ∧ m ≤ 4) (hl : m ≤ leastI a b) :
 (covB m a = true → covB m b = true → leastI a b = m) ∧ (covB m a = false ∨ covB m b = false → m + 1 ≤ leastI a b) := by
 have h := all3 (p := fun a b m => !decide (m ≤ leastI a b) || (if covB m a && covB m b then decide (leastI a b = m) else decide (m + 1 ≤ leastI a b))) (by decide +kernel) a b m ha hb hm
 simp only [hl, decide_true, Bool.not_true, Bool.false_or] at h
 constructor
 ·intro h1 h2; simpa [h1, h2] using h
 ·rintro (h1 | h1) <;> simpa [h1] using h
end Go.Proofs.YtjpjlfjaapfnkaaGreatDoor.C20
namespace Go.Proofs.YtjpjlfjaapfnkaaGreatDoor.C20
structure Ev where
 kind : Int
 client : Int
 tx : Int
 table : Int
 row : Int
 mode : Int
 code : Int
structure Got where
 table : Int
 row : Int
 mode : Int
 place : Int
structure Tx where
 state : Int
 client : Int
 fin : Int
 asked : Bool
 opn : Bool
 table : Int
 row : Int
 mode : Int
 got : List Got
structure St where
 all : List Tx
 dead : Nat → Bool
 now : Nat → Bool
 serial : List Int
def resB (t r : Int) : Bool := decide (1 ≤ t ∧ t ≤ 250 ∧ 0 ≤ r ∧ r ≤ 250)
def formB (e : Ev) : Bool :=
 if e.kind = 1 then decide (1 ≤ e.client ∧ e.client ≤ 8 ∧ 1 ≤ e.tx ∧ e.table = 0 ∧ e.row = 0 ∧ e.mode = 0 ∧ e.code = 0)
 else if e.kind = 2 ∨ e.kind = 3 then decide (e.client = 0 ∧ 1 ≤ e.tx ∧ 1 ≤ e.mode ∧ e.mode ≤ 4 ∧ e.code = 0) && resB e.table e.row
 else if e.kind = 4 then decide (e.client = 0 ∧ 1 ≤ e.tx ∧ e.mode = 0 ∧ 1 ≤ e.code ∧ e.code ≤ 15) && resB e.table e.row
 else if e.kind = 5 ∨ e.kind = 6 then decide (e.client = 0 ∧ 1 ≤ e.tx ∧ e.table = 0 ∧ e.row = 0 ∧ e.mode = 0 ∧ e.code = 0)
 else if e.kind = 7 then decide (e.client = 0 ∧ 1 ≤ e.tx ∧ e.table = 0 ∧ e.row = 0 ∧ e.mode = 0 ∧ 1 ≤ e.code ∧ e.code ≤ 5)
 else if e.kind = 8 then decide (1 ≤ e.client ∧ e.client ≤ 8 ∧ e.tx = 0 ∧ e.table = 0 ∧ e.row = 0 ∧ e.mode = 0 ∧ e.code = 0)
 else false
def modeOf (t r : Int) (l : List Got) : Int := l.foldl (fun m g => if g.table = t ∧ g.row = r then g.mode else m) 0
def grantB (x : Tx) (e : Ev) : Bool :=
 decide (leastI (modeOf e.table e.row x.got) x.mode = e.mode) &&
 (decide (¬ 0 < e.row) || (decide (needE x.mode = 0) && covB (modeOf e.table 0 x.got) (needI x.mode)))
def Tx.grant (x : Tx) (e : Ev) (place : Int) : Tx := { x with opn := false, got := x.got ++ [⟨e.table, e.row, e.mode, place⟩] }
def clashB (a b : Tx) : Bool :=
 a.got.any fun x => b.got.any fun y => decide (x.table = y.table ∧ x.row = y.row) && !togB x.mode y.mode && decide (x.place < b.fin) && decide (y.place < a.fin)
def dflt : Tx := ⟨0, 0, 0, false, false, 0, 0, 0, []⟩
def St.tx (s : St) (n : Int) : Tx := s.all.getD (n - 1).toNat dflt
def St.put (s : St) (n : Int) (x : Tx) : St := { s with all := s.all.set (n - 1).toNat x }
def off (f : Nat → Bool) (c : Int) (v : Bool) : Nat → Bool := fun k => if (k : Int) = c then v else f k
def St.over (s : St) (n : Int) (x : Tx) : St := { s with all := s.all.set (n - 1).toNat { x with state := 3 }, now := off s.now x.client false }
def stepE (s : St) (e : Ev) (place : Int) : Int :=
 let x := s.tx e.tx
 if e.kind = 2 then (if x.state = 1 ∧ x.opn = false then 0 else 11)
 else if e.kind = 3 then (if x.state = 1 ∧ x.opn = true ∧ x.table = e.table ∧ x.row = e.row then (if grantB x e then 0 else 11) else 11)
 else if e.kind = 4 then (if x.state = 1 ∧ x.opn = true ∧ x.table = e.table ∧ x.row = e.row then 0 else 11)
 else if e.kind = 5 then (if x.state = 1 ∧ x.opn = false ∧ x.asked = true then 0 else 11)
 else if e.kind = 6 then (if x.opn = true ∨ (¬ x.state = 2 ∧ x.asked = true) then 11 else if s.serial.any (fun n => clashB { x with fin := place } (s.tx n)) then 8 else 0)
 else if e.kind = 7 then 0 else 11
def stepS (s : St) (e : Ev) (place : Int) : St :=
 let x := s.tx e.tx
 if e.kind = 2 then s.put e.tx { x with asked := true, opn := true, table := e.table, row := e.row, mode := e.mode }
 else if e.kind = 3 then s.put e.tx (x.grant e place)
 else if e.kind = 4 then s.put e.tx { x with opn := false }
 else if e.kind = 5 then s.put e.tx { x with state := 2 }
 else if e.kind = 6 then { s.over e.tx { x with fin := place } with serial := s.serial ++ [e.tx] }
 else s.over e.tx x
def newTx (c : Int) : Tx := ⟨1, c, -1, false, false, 0, 0, 0, []⟩
def nextE (s : St) (e : Ev) (place : Int) : Int :=
 if formB e = false then 5
 else if e.kind = 1 then (if ¬ e.tx = s.all.length + 1 ∨ s.dead e.client.toNat = true ∨ s.now e.client.toNat = true then 11 else 0)
 else if e.kind = 8 then (if s.dead e.client.toNat = true then 11 else 0)
 else if (s.all.length : Int) < e.tx ∨ (s.tx e.tx).state = 3 then 11
 else stepE s e place
def nextS (s : St) (e : Ev) (place : Int) : St :=
 if e.kind = 1 then { s with all := s.all ++ [newTx e.client], now := off s.now e.client true }
 else if e.kind = 8 then { s with dead := off s.dead e.client true }
 else stepS s e place
def start : St := ⟨[], fun _ => false, fun _ => false, []⟩
def playF : St → List Ev → Nat → List Int ⊕ Nat × Int
 | s, [], _ => .inl s.serial
 | s, e :: l, i => if nextE s e i = 0 then playF (nextS s e i) l (i + 1) else .inr (i, nextE s e i)
end Go.Proofs.YtjpjlfjaapfnkaaGreatDoor.C20
namespace Go.Proofs.YtjpjlfjaapfnkaaGreatDoor
open C20 (Ev formB)
theorem readL_is {L : List UInt8} {t r : Nat} (h : readL L = .inl (t, r)) : 1 ≤ t ∧ t ≤ 250 ∧ r ≤ 250 ∧ textL t r = L := by
 unfold readL at h
 cases hs : run (.tab 0) L with
 | none => rw [hs] at h; cases h
 | some s =>
  rw [hs] at h
  rcases run_is L s hs with ⟨n, rfl, h1, h2⟩ | ⟨n, m, rfl, h1, h2, h3, h4⟩
  ·simp only at h
   by_cases h0 : n = 0
   ·rw [if_pos h0] at h; cases h
   ·rw [if_neg h0] at h h1
    simp at h
    obtain ⟨rfl, rfl⟩ := h
    exact ⟨by omega, h2, by omega, by unfold textL; rw [if_pos rfl]; exact h1.symm⟩
  ·simp only at h
   by_cases h0 : m = 0
   ·rw [if_pos h0] at h; cases h
   ·rw [if_neg h0] at h h4
    simp at h
    obtain ⟨rfl, rfl⟩ := h
    exact ⟨h1, h2, h3, by unfold textL; rw [if_neg h0]; exact h4.symm⟩
theorem parse_text {t r : Nat} (ht : 1 ≤ t ∧ t ≤ 250) (hr : r ≤ 250) : parseL (textL t r) = .inl (t, r) := by
 rw [parse_eq]; exact readL_text ht hr rfl
theorem parse_is {L : List UInt8} {t r : Nat} (h : parseL L = .inl (t, r)) : 1 ≤ t ∧ t ≤ 250 ∧ r ≤ 250 ∧ textL t r = L := by
 rw [parse_eq] at h; exact readL_is h
theorem dig_noblank : ∀ n, n < 251 → (32 : UInt8) ∉ digL n ∧ (10 : UInt8) ∉ digL n := by decide +kernel
theorem text_no {t r : Nat} (ht : t ≤ 250) (hr : r ≤ 250) : (32 : UInt8) ∉ textL t r ∧ (10 : UInt8) ∉ textL t r := by
 have h1 := dig_noblank t (by omega)
 have h2 := dig_noblank r (by omega)
 unfold textL
 split
 ·exact h1
 ·constructor
  ·intro h
   rcases List.mem_append.1 h with q | q
   ·exact h1.1 q
   ·rcases List.mem_cons.1 q with e | e
    ·cases e
    ·exact h2.1 e
  ·intro h
   rcases List.mem_append.1 h with q | q
   ·exact h1.2 q
   ·rcases List.mem_cons.1 q with e | e
    ·cases e
    ·exact h2.2 e
def evName (k : Nat) : List UInt8 :=
 match k with
 | 1 => [98, 101, 103, 97, 110]
 | 2 => [97, 115, 107, 101, 100]
 | 3 => [103, 114, 97, 110, 116, 101, 100]
 | 4 => [114, 101, 102, 117, 115, 101, 100]
 | 5 => [102, 105, 110, 105, 115, 104]
 | 6 => [99, 111, 109, 109, 105, 116, 116, 101, 100]
 | 7 => [97, 98, 111, 114, 116, 101, 100]
 | 8 => [99, 114, 97, 115, 104, 101, 100]
 | _ => []
def decI (x : Int) : List UInt8 := decL x.toNat
def textI (t r : Int) : List UInt8 := textL t.toNat r.toNat
def modeW (m : Int) : List UInt8 := modeL m.toNat
def evW (e : Ev) : List (List UInt8) :=
 if e.kind = 1 then [evName 1, decI e.tx, decI e.client]
 else if e.kind = 2 then [evName 2, decI e.tx, textI e.table e.row, modeW e.mode]
 else if e.kind = 3 then [evName 3, decI e.tx, textI e.table e.row, modeW e.mode]
 else if e.kind = 4 then [evName 4, decI e.tx, textI e.table e.row, decI e.code]
 else if e.kind = 5 then [evName 5, decI e.tx]
 else if e.kind = 6 then [evName 6, decI e.tx]
 else if e.kind = 7 then [evName 7, decI e.tx, decI e.code]
 else [evName 8, decI e.client]
def evT (e : Ev) : List UInt8 := jnL 32 (evW e)
def evOk (e : Ev) : Bool := formB e && decide (e.tx ≤ 99999999)
theorem evW_ne (e : Ev) : evW e ≠ [] := by unfold evW; (repeat' split) <;> simp
theorem form_cases {e : Ev} (h : formB e = true) :
 (e = ⟨1, e.client, e.tx, 0, 0, 0, 0⟩ ∧ 1 ≤ e.tx ∧ 1 ≤ e.client ∧ e.client ≤ 8) ∨
 ((e.kind = 2 ∨ e.kind = 3) ∧ e = ⟨e.kind, 0, e.tx, e.table, e.row, e.mode, 0⟩ ∧ 1 ≤ e.tx ∧ 1 ≤ e.mode ∧ e.mode ≤ 4 ∧ 1 ≤ e.table ∧ e.table ≤ 250 ∧ 0 ≤ e.row ∧ e.row ≤ 250) ∨
 (e = ⟨4, 0, e.tx, e.table, e.row, 0, e.code⟩ ∧ 1 ≤ e.tx ∧ 1 ≤ e.code ∧ e.code ≤ 15 ∧ 1 ≤ e.table ∧ e.table ≤ 250 ∧ 0 ≤ e.row ∧ e.row ≤ 250) ∨
 ((e.kind = 5 ∨ e.kind = 6) ∧ e = ⟨e.kind, 0, e.tx, 0, 0, 0, 0⟩ ∧ 1 ≤ e.tx) ∨
 (e = ⟨7, 0, e.tx, 0, 0, 0, e.code⟩ ∧ 1 ≤ e.tx ∧ 1 ≤ e.code ∧ e.code ≤ 5) ∨
 (e = ⟨8, e.client, 0, 0, 0, 0, 0⟩ ∧ 1 ≤ e.client ∧ e.client ≤ 8) := by
 obtain ⟨k, c, x, t, r, m, q⟩ := e
 unfold formB C20.resB at h
 simp only at h ⊢
 split at h
 ·rename_i hk; subst hk
  have := of_decide_eq_true h
  obtain ⟨a, b, c', d, e, f, g⟩ := this
  subst d; subst e; subst f; subst g
  exact .inl ⟨rfl, c', a, b⟩
 ·split at h
  ·rename_i _ hk
   rw [Bool.and_eq_true, decide_eq_true_eq, decide_eq_true_eq] at h
   obtain ⟨⟨a, b, c', d, e⟩, f⟩ := h
   subst a; subst e
   exact .inr (.inl ⟨hk, rfl, b, c', d, f⟩)
  ·split at h
   ·rename_i _ _ hk; subst hk
    rw [Bool.and_eq_true, decide_eq_true_eq, decide_eq_true_eq] at h
    obtain ⟨⟨a, b, c', d, e⟩, f⟩ := h
    subst a; subst c'
    exact .inr (.inr (.inl ⟨rfl, b, d, e, f⟩))
   ·split at h
    ·rename_i _ _ _ hk
     obtain ⟨a, b, c', d, e, f⟩ := of_decide_eq_true h
     subst a; subst c'; subst d; subst e; subst f
     exact .inr (.inr (.inr (.inl ⟨hk, rfl, b⟩)))
    ·split at h
     ·rename_i _ _ _ _ hk; subst hk
      obtain ⟨a, b, c', d, e, f, g⟩ := of_decide_eq_true h
      subst a; subst c'; subst d; subst e
      exact .inr (.inr (.inr (.inr (.inl ⟨rfl, b, f, g⟩))))
     ·split at h
      ·rename_i _ _ _ _ _ hk; subst hk
       obtain ⟨a, b, c', d, e, f, g⟩ := of_decide_eq_true h
       subst c'; subst d; subst e; subst f; subst g
       exact .inr (.inr (.inr (.inr (.inr ⟨rfl, a, b⟩))))
      ·cases h
theorem form_lt {e : Ev} (h : formB e = true) : 1 ≤ e.kind ∧ e.kind ≤ 8 := by
 rcases form_cases h with ⟨q, _⟩ | ⟨q, _⟩ | ⟨q, _⟩ | ⟨q, _⟩ | ⟨q, _⟩ | ⟨q, _⟩
 ·rw [q]; simp
 ·omega
 ·rw [q]; simp
 ·omega
 ·rw [q]; simp
 ·rw [q]; simp
theorem decI_no (x : Int) : (32 : UInt8) ∉ decI x ∧ (10 : UInt8) ∉ decI x := ⟨dec_no (by decide), dec_no (by decide)⟩
theorem modeW_no {m : Int} : (32 : UInt8) ∉ modeW m ∧ (10 : UInt8) ∉ modeW m := by
 unfold modeW modeL
 (repeat' split) <;> decide
theorem evName_no (k : Nat) : (32 : UInt8) ∉ evName k ∧ (10 : UInt8) ∉ evName k := by
 unfold evName; split <;> decide
theorem evW_no {e : Ev} (h : formB e = true) : ∀ w ∈ evW e, (32 : UInt8) ∉ w ∧ (10 : UInt8) ∉ w := by
 have hx := decI_no e.tx
 have hc := decI_no e.client
 have hq := decI_no e.code
 have hm := @modeW_no e.mode
 have ht : (e.kind = 2 ∨ e.kind = 3 ∨ e.kind = 4) → (32 : UInt8) ∉ textI e.table e.row ∧ (10 : UInt8) ∉ textI e.table e.row := by
  intro hk
  rcases form_cases h with ⟨q, _⟩ | ⟨q, _, _, _, _, a⟩ | ⟨q, _, _, _, a⟩ | ⟨q, _⟩ | ⟨q, _⟩ | ⟨q, _⟩
  ·rw [q] at hk; simp at hk
  ·exact text_no (by omega) (by omega)
  ·exact text_no (by omega) (by omega)
  ·omega
  ·rw [q] at hk; simp at hk
  ·rw [q] at hk; simp at hk
 intro w hw
 unfold evW at hw
 repeat' split at hw
 all_goals simp only [List.mem_cons, List.not_mem_nil, or_false] at hw
 ·rcases hw with rfl | rfl | rfl
  ·exact evName_no 1
  ·exact hx
  ·exact hc
 ·rcases hw with rfl | rfl | rfl | rfl
  ·exact evName_no 2
  ·exact hx
  ·exact ht (by omega)
  ·exact hm
 ·rcases hw with rfl | rfl | rfl | rfl
  ·exact evName_no 3
  ·exact hx
  ·exact ht (by omega)
  ·exact hm
 ·rcases hw with rfl | rfl | rfl | rfl
  ·exact evName_no 4
  ·exact hx
  ·exact ht (by omega)
  ·exact hq
 ·rcases hw with rfl | rfl
  ·exact evName_no 5
  ·exact hx
 ·rcases hw with rfl | rfl
  ·exact evName_no 6
  ·exact hx
 ·rcases hw with rfl | rfl | rfl
  ·exact evName_no 7
  ·exact hx
  ·exact hq
 ·rcases hw with rfl | rfl
  ·exact evName_no 8
  ·exact hc
theorem evT_sp {e : Ev} (h : formB e = true) : spL 32 (evT e) = evW e := sp_jn (fun w hw => (evW_no h w hw).1) (evW_ne e)
def evChk (e : Ev) : Option Ev := if formB e = true then some e else none
def evR (k : Nat) : List (List UInt8) → Option Ev
 | [a] => match numT a with
  | some x => if k = 5 ∨ k = 6 then evChk ⟨(k : Int), 0, x, 0, 0, 0, 0⟩ else if k = 8 then evChk ⟨8, x, 0, 0, 0, 0, 0⟩ else none
  | none => none
 | [a, b] => match numT a, numT b with
  | some x, some y => if k = 1 then evChk ⟨1, y, x, 0, 0, 0, 0⟩ else if k = 7 then evChk ⟨7, 0, x, 0, 0, 0, y⟩ else none
  | _, _ => none
 | [a, b, c] => match numT a, parseL b with
  | some x, .inl (t, r) =>
   if k = 2 ∨ k = 3 then (if modeT c = 0 then none else evChk ⟨(k : Int), 0, x, t, r, modeT c, 0⟩)
   else if k = 4 then (match numT c with
    | some y => evChk ⟨4, 0, x, t, r, 0, y⟩
    | none => none)
   else none
  | _, _ => none
 | _ => none
def evNo (w : List UInt8) : Nat :=
 if w = evName 1 then 1 else if w = evName 2 then 2 else if w = evName 3 then 3 else if w = evName 4 then 4
 else if w = evName 5 then 5 else if w = evName 6 then 6 else if w = evName 7 then 7 else if w = evName 8 then 8 else 0
theorem evNo_is {w : List UInt8} (h : evNo w ≠ 0) : evName (evNo w) = w ∧ 1 ≤ evNo w ∧ evNo w ≤ 8 := by
 unfold evNo at h ⊢
 repeat' split at h
 all_goals first | exact absurd rfl h | skip
 all_goals simp_all
theorem evNo_name : ∀ k, 1 ≤ k → k ≤ 8 → evNo (evName k) = k := by
 intro k h1 h2
 have : k = 1 ∨ k = 2 ∨ k = 3 ∨ k = 4 ∨ k = 5 ∨ k = 6 ∨ k = 7 ∨ k = 8 := by omega
 rcases this with rfl | rfl | rfl | rfl | rfl | rfl | rfl | rfl <;> rfl
def evP (L : List UInt8) : Option Ev := match spL 32 L with
 | w :: r => if evNo w = 0 then none else evR (evNo w) r
 | [] => none
theorem evChk_iff {a e : Ev} : evChk a = some e ↔ a = e ∧ formB e = true := by
 unfold evChk
 constructor
 ·intro h
  split at h
  ·rename_i hf; obtain rfl := Option.some.inj h; exact ⟨rfl, hf⟩
  ·cases h
 ·rintro ⟨rfl, h⟩; rw [if_pos h]
theorem evR_is {k : Nat} {r : List (List UInt8)} {e : Ev} (hk : 1 ≤ k ∧ k ≤ 8) (h : evR k r = some e) : evOk e = true ∧ evW e = evName k :: r := by
 unfold evR at h
 split at h
 ·rename_i a
  split at h
  ·rename_i x hx
   obtain ⟨rfl, hx⟩ := numT_iff.1 hx
   split at h
   ·rename_i h56
    obtain ⟨rfl, hf⟩ := evChk_iff.1 h
    refine ⟨by unfold evOk; rw [hf]; simp; omega, ?_⟩
    rcases h56 with rfl | rfl <;> simp [evW, decI]
   ·split at h
    ·rename_i h8; subst h8
     obtain ⟨rfl, hf⟩ := evChk_iff.1 h
     refine ⟨by unfold evOk; rw [hf]; simp, ?_⟩
     simp [evW, decI]
    ·cases h
  ·cases h
 ·rename_i a b
  split at h
  ·rename_i x y hx hy
   obtain ⟨rfl, hx⟩ := numT_iff.1 hx
   obtain ⟨rfl, hy⟩ := numT_iff.1 hy
   split at h
   ·rename_i h1; subst h1
    obtain ⟨rfl, hf⟩ := evChk_iff.1 h
    refine ⟨by unfold evOk; rw [hf]; simp; omega, ?_⟩
    simp [evW, decI]
   ·split at h
    ·rename_i h7; subst h7
     obtain ⟨rfl, hf⟩ := evChk_iff.1 h
     refine ⟨by unfold evOk; rw [hf]; simp; omega, ?_⟩
     simp [evW, decI]
    ·cases h
  ·cases h
 ·rename_i a b c
  split at h
  ·rename_i x t r hx hp
   obtain ⟨rfl, hx⟩ := numT_iff.1 hx
   obtain ⟨p1, p2, p3, rfl⟩ := parse_is hp
   split at h
   ·rename_i h23
    split at h
    ·cases h
    ·rename_i hm
     obtain ⟨rfl, hf⟩ := evChk_iff.1 h
     obtain ⟨m1, m2⟩ := mode_is (s := c) (by omega)
     refine ⟨by unfold evOk; rw [hf]; simp; omega, ?_⟩
     rcases h23 with rfl | rfl <;> simp [evW, decI, textI, modeW, m1]
   ·split at h
    ·rename_i h4; subst h4
     split at h
     ·rename_i y hy
      obtain ⟨rfl, hy⟩ := numT_iff.1 hy
      obtain ⟨rfl, hf⟩ := evChk_iff.1 h
      refine ⟨by unfold evOk; rw [hf]; simp; omega, ?_⟩
      simp [evW, decI, textI]
     ·cases h
    ·cases h
  ·cases h
 ·cases h
theorem evR_of {e : Ev} (h : evOk e = true) : ∃ r, evW e = evName e.kind.toNat :: r ∧ evR e.kind.toNat r = some e := by
 unfold evOk at h
 rw [Bool.and_eq_true, decide_eq_true_eq] at h
 obtain ⟨hf, hx⟩ := h
 have hff := hf
 rcases form_cases hf with ⟨q, a, b, c⟩ | ⟨hk, q, a, b, c, d⟩ | ⟨q, a, b, c, d⟩ | ⟨hk, q, a⟩ | ⟨q, a, b, c⟩ | ⟨q, b, c⟩
 ·rw [q] at hff ⊢
  generalize e.tx = x at *
  generalize e.client = cl at *
  obtain ⟨n, rfl⟩ := Int.eq_ofNat_of_zero_le (show 0 ≤ x by omega)
  obtain ⟨m, rfl⟩ := Int.eq_ofNat_of_zero_le (show 0 ≤ cl by omega)
  exact ⟨[decL n, decL m], by simp [evW, decI], by simp [evR, dec_num (show n ≤ 99999999 by omega), dec_num (show m ≤ 99999999 by omega), evChk_iff, hff]⟩
 ·rw [q] at hff ⊢
  generalize e.tx = x at *
  generalize e.table = t at *
  generalize e.row = r at *
  generalize e.mode = m at *
  generalize e.kind = k at *
  obtain ⟨n, rfl⟩ := Int.eq_ofNat_of_zero_le (show 0 ≤ x by omega)
  obtain ⟨t, rfl⟩ := Int.eq_ofNat_of_zero_le (show 0 ≤ t by omega)
  obtain ⟨r, rfl⟩ := Int.eq_ofNat_of_zero_le (show 0 ≤ r by omega)
  obtain ⟨m, rfl⟩ := Int.eq_ofNat_of_zero_le (show 0 ≤ m by omega)
  have hm := mode_of (m := m) (by omega) (by omega)
  have hp := parse_text (t := t) (r := r) (by omega) (by omega)
  have hn := dec_num (n := n) (by omega)
  have h0 : ¬ m = 0 := by omega
  rcases hk with rfl | rfl
  ·exact ⟨[decL n, textL t r, modeL m], by simp [evW, decI, textI, modeW], by simp [evR, hn, hp, hm, h0, evChk_iff]; exact hff⟩
  ·exact ⟨[decL n, textL t r, modeL m], by simp [evW, decI, textI, modeW], by simp [evR, hn, hp, hm, h0, evChk_iff]; exact hff⟩
 ·rw [q] at hff ⊢
  generalize e.tx = x at *
  generalize e.table = t at *
  generalize e.row = r at *
  generalize e.code = y at *
  obtain ⟨n, rfl⟩ := Int.eq_ofNat_of_zero_le (show 0 ≤ x by omega)
  obtain ⟨t, rfl⟩ := Int.eq_ofNat_of_zero_le (show 0 ≤ t by omega)
  obtain ⟨r, rfl⟩ := Int.eq_ofNat_of_zero_le (show 0 ≤ r by omega)
  obtain ⟨y, rfl⟩ := Int.eq_ofNat_of_zero_le (show 0 ≤ y by omega)
  have hp := parse_text (t := t) (r := r) (by omega) (by omega)
  have hn := dec_num (n := n) (by omega)
  have hy := dec_num (n := y) (by omega)
  exact ⟨[decL n, textL t r, decL y], by simp [evW, decI, textI], by simp [evR, hn, hp, hy, evChk_iff]; exact hff⟩
 ·rw [q] at hff ⊢
  generalize e.tx = x at *
  generalize e.kind = k at *
  obtain ⟨n, rfl⟩ := Int.eq_ofNat_of_zero_le (show 0 ≤ x by omega)
  have hn := dec_num (n := n) (by omega)
  rcases hk with rfl | rfl
  ·exact ⟨[decL n], by simp [evW, decI], by simp [evR, hn, evChk_iff]; exact hff⟩
  ·exact ⟨[decL n], by simp [evW, decI], by simp [evR, hn, evChk_iff]; exact hff⟩
 ·rw [q] at hff ⊢
  generalize e.tx = x at *
  generalize e.code = y at *
  obtain ⟨n, rfl⟩ := Int.eq_ofNat_of_zero_le (show 0 ≤ x by omega)
  obtain ⟨y, rfl⟩ := Int.eq_ofNat_of_zero_le (show 0 ≤ y by omega)
  have hn := dec_num (n := n) (by omega)
  have hy := dec_num (n := y) (by omega)
  exact ⟨[decL n, decL y], by simp [evW, decI], by simp [evR, hn, hy, evChk_iff]; exact hff⟩
 ·rw [q] at hff ⊢
  generalize e.client = cl at *
  obtain ⟨n, rfl⟩ := Int.eq_ofNat_of_zero_le (show 0 ≤ cl by omega)
  have hn := dec_num (n := n) (by omega)
  exact ⟨[decL n], by simp [evW, decI], by simp [evR, hn, evChk_iff]; exact hff⟩
theorem evP_iff {L : List UInt8} {e : Ev} : evP L = some e ↔ evOk e = true ∧ evT e = L := by
 unfold evP
 constructor
 ·intro h
  split at h
  ·rename_i w r hs
   split at h
   ·cases h
   ·rename_i h0
    obtain ⟨n1, n2⟩ := evNo_is h0
    obtain ⟨a, b⟩ := evR_is n2 h
    refine ⟨a, ?_⟩
    unfold evT
    rw [b, n1, ← hs, jn_sp]
  ·cases h
 ·rintro ⟨a, rfl⟩
  have hf : formB e = true := by unfold evOk at a; rw [Bool.and_eq_true] at a; exact a.1
  obtain ⟨r, b, c⟩ := evR_of a
  rw [evT_sp hf, b]
  have hk := form_lt hf
  simp only
  rw [evNo_name _ (by omega) (by omega), if_neg (by omega), c]
def wordR (ws : List (List UInt8)) (i : Nat) : List UInt8 := ws.getD i []
def numR (s : List UInt8) : Int := match numT s with
 | some n => n
 | none => -1
def resR (s : List UInt8) : Nat × Nat := match parseL s with
 | .inl p => p
 | .inr _ => (0, 0)
def evCand (k : Nat) (ws : List (List UInt8)) : Ev :=
 let a := numR (wordR ws 1)
 let c := numR (wordR ws 2)
 let at' := resR (wordR ws 2)
 if k = 1 then ⟨1, c, a, 0, 0, 0, 0⟩
 else if k = 2 ∨ k = 3 then ⟨(k : Int), 0, a, at'.1, at'.2, modeT (wordR ws 3), 0⟩
 else if k = 4 then ⟨4, 0, a, at'.1, at'.2, 0, numR (wordR ws 3)⟩
 else if k = 7 then ⟨7, 0, a, 0, 0, 0, c⟩
 else if k = 8 then ⟨8, a, 0, 0, 0, 0, 0⟩
 else ⟨(k : Int), 0, a, 0, 0, 0, 0⟩
theorem cand_of {e : Ev} (h : evOk e = true) : evCand e.kind.toNat (evW e) = e := by
 unfold evOk at h
 rw [Bool.and_eq_true, decide_eq_true_eq] at h
 obtain ⟨hf, hx⟩ := h
 rcases form_cases hf with ⟨q, a, b, c⟩ | ⟨hk, q, a, b, c, d⟩ | ⟨q, a, b, c, d⟩ | ⟨hk, q, a⟩ | ⟨q, a, b, c⟩ | ⟨q, b, c⟩
 ·rw [q]
  generalize e.tx = x at *
  generalize e.client = cl at *
  obtain ⟨n, rfl⟩ := Int.eq_ofNat_of_zero_le (show 0 ≤ x by omega)
  obtain ⟨m, rfl⟩ := Int.eq_ofNat_of_zero_le (show 0 ≤ cl by omega)
  simp [evW, decI, evCand, wordR, numR, dec_num (show n ≤ 99999999 by omega), dec_num (show m ≤ 99999999 by omega)]
 ·rw [q]
  generalize e.tx = x at *
  generalize e.table = t at *
  generalize e.row = r at *
  generalize e.mode = m at *
  generalize e.kind = k at *
  obtain ⟨n, rfl⟩ := Int.eq_ofNat_of_zero_le (show 0 ≤ x by omega)
  obtain ⟨t, rfl⟩ := Int.eq_ofNat_of_zero_le (show 0 ≤ t by omega)
  obtain ⟨r, rfl⟩ := Int.eq_ofNat_of_zero_le (show 0 ≤ r by omega)
  obtain ⟨m, rfl⟩ := Int.eq_ofNat_of_zero_le (show 0 ≤ m by omega)
  have hm := mode_of (m := m) (by omega) (by omega)
  have hp := parse_text (t := t) (r := r) (by omega) (by omega)
  have hn := dec_num (n := n) (by omega)
  rcases hk with rfl | rfl <;> simp [evW, decI, textI, modeW, evCand, wordR, numR, resR, hn, hp, hm]
 ·rw [q]
  generalize e.tx = x at *
  generalize e.table = t at *
  generalize e.row = r at *
  generalize e.code = y at *
  obtain ⟨n, rfl⟩ := Int.eq_ofNat_of_zero_le (show 0 ≤ x by omega)
  obtain ⟨t, rfl⟩ := Int.eq_ofNat_of_zero_le (show 0 ≤ t by omega)
  obtain ⟨r, rfl⟩ := Int.eq_ofNat_of_zero_le (show 0 ≤ r by omega)
  obtain ⟨y, rfl⟩ := Int.eq_ofNat_of_zero_le (show 0 ≤ y by omega)
  have hp := parse_text (t := t) (r := r) (by omega) (by omega)
  have hn := dec_num (n := n) (by omega)
  have hy := dec_num (n := y) (by omega)
  simp [evW, decI, textI, evCand, wordR, numR, resR, hn, hp, hy]
 ·rw [q]
  generalize e.tx = x at *
  generalize e.kind = k at *
  obtain ⟨n, rfl⟩ := Int.eq_ofNat_of_zero_le (show 0 ≤ x by omega)
  have hn := dec_num (n := n) (by omega)
  rcases hk with rfl | rfl <;> simp [evW, decI, evCand, wordR, numR, hn]
 ·rw [q]
  generalize e.tx = x at *
  generalize e.code = y at *
  obtain ⟨n, rfl⟩ := Int.eq_ofNat_of_zero_le (show 0 ≤ x by omega)
  obtain ⟨y, rfl⟩ := Int.eq_ofNat_of_zero_le (show 0 ≤ y by omega)
  simp [evW, decI, evCand, wordR, numR, dec_num (show n ≤ 99999999 by omega), dec_num (show y ≤ 99999999 by omega)]
 ·rw [q]
  generalize e.client = cl at *
  obtain ⟨n, rfl⟩ := Int.eq_ofNat_of_zero_le (show 0 ≤ cl by omega)
  simp [evW, decI, evCand, wordR, numR, dec_num (show n ≤ 99999999 by omega)]
def evD (L : List UInt8) : Option Ev :=
 let ws := spL 32 L
 let k := evNo (wordR ws 0)
 if k = 0 then none else if evOk (evCand k ws) = true ∧ evT (evCand k ws) = L then some (evCand k ws) else none
theorem evD_eq (L : List UInt8) : evD L = evP L := by
 cases h : evP L with
 | some e =>
  obtain ⟨a, rfl⟩ := evP_iff.1 h
  have hf : formB e = true := by unfold evOk at a; rw [Bool.and_eq_true] at a; exact a.1
  have hk := form_lt hf
  obtain ⟨r, b, c⟩ := evR_of a
  have hw : wordR (spL 32 (evT e)) 0 = evName e.kind.toNat := by rw [evT_sp hf, b]; rfl
  unfold evD
  simp only [hw, evNo_name _ (show 1 ≤ e.kind.toNat by omega) (show e.kind.toNat ≤ 8 by omega)]
  rw [if_neg (by omega), evT_sp hf, cand_of a, if_pos ⟨a, rfl⟩]
 | none =>
  unfold evD
  simp only
  split
  ·rfl
  ·split
   ·rename_i hc
    have := evP_iff.2 hc
    rw [h] at this; cases this
   ·rfl
end Go.Proofs.YtjpjlfjaapfnkaaGreatDoor
namespace Go.Proofs.YtjpjlfjaapfnkaaGreatDoor
def resB (t r : Int) : Bool := decide (1 ≤ t ∧ t ≤ 250 ∧ 0 ≤ r ∧ r ≤ 250)
structure Ent where
 k : Int
 c : Int
 t : Int
 r : Int
 m : Int
 p : Int
def Ent.none : Ent := ⟨0, 0, 0, 0, 0, 0⟩
def Ent.cells (e : Ent) : List Value := [.int .i64 e.k, .int .i64 e.c, .int .i64 e.t, .int .i64 e.r, .int .i64 e.m, .int .i64 e.p]
def Ent.val (e : Ent) : Value := .agg #[.int .i64 e.k, .int .i64 e.c, .int .i64 e.t, .int .i64 e.r, .int .i64 e.m, .int .i64 e.p]
def entB (k c t r m p : Int) : Bool :=
 if k = 3 then decide ((1 ≤ t ∧ t ≤ 250 ∧ 0 ≤ r ∧ r ≤ 250) ∧ (1 ≤ m ∧ m ≤ 4) ∧ (1 ≤ c ∧ c ≤ 8) ∧ p = 0)
 else if k = 2 ∨ k = 4 ∨ k = 5 ∨ k = 6 then decide ((1 ≤ c ∧ c ≤ 8) ∧ t = 0 ∧ r = 0 ∧ m = 0 ∧ p = 0)
 else if k = 0 ∨ k = 1 then decide (c = 0 ∧ t = 0 ∧ r = 0 ∧ m = 0 ∧ p = 0)
 else if k = 7 ∨ k = 8 ∨ k = 9 then decide ((0 ≤ p ∧ p < 16777216) ∧ c = 0 ∧ t = 0 ∧ r = 0 ∧ m = 0)
 else false
def rdF (a b c d e : Int) : Ent :=
 if a = 1 ∧ b = 0 ∧ c = 0 ∧ d = 0 ∧ e = 0 then ⟨1, 0, 0, 0, 0, 0⟩
 else if (a = 2 ∨ a = 4 ∨ a = 5 ∨ a = 6) ∧ (1 ≤ b ∧ b ≤ 8) ∧ c = 0 ∧ d = 0 ∧ e = 0 then ⟨a, b, 0, 0, 0, 0⟩
 else if a = 3 ∧ (1 ≤ b ∧ b ≤ 8) ∧ (1 ≤ c ∧ c ≤ 250 ∧ 0 ≤ d ∧ d ≤ 250) ∧ (1 ≤ e ∧ e ≤ 4) then ⟨3, b, c, d, e, 0⟩
 else if (7 ≤ a ∧ a ≤ 9) ∧ e = 0 then ⟨a, 0, 0, 0, 0, 65536 * b + 256 * c + d⟩ else Ent.none
end Go.Proofs.YtjpjlfjaapfnkaaGreatDoor
namespace Go.Proofs.YtjpjlfjaapfnkaaGreatDoor
def Ent.may (e : Ent) : Bool := entB e.k e.c e.t e.r e.m e.p
def entName (k : Nat) : List UInt8 :=
 match k with
 | 0 => [115, 107, 105, 112]
 | 1 => [116, 105, 99, 107]
 | 2 => [98, 101, 103, 105, 110]
 | 3 => [108, 111, 99, 107]
 | 4 => [99, 111, 109, 109, 105, 116]
 | 5 => [97, 98, 111, 114, 116]
 | 6 => [99, 114, 97, 115, 104]
 | 7 => [100, 101, 108, 105, 118, 101, 114]
 | 8 => [100, 114, 111, 112]
 | 9 => [116, 119, 105, 99, 101]
 | _ => []
def entW (e : Ent) : List (List UInt8) :=
 if e.k = 0 ∨ e.k = 1 then [entName e.k.toNat]
 else if e.k = 3 then [entName 3, decI e.c, textI e.t e.r, modeW e.m]
 else if e.k = 7 ∨ e.k = 8 ∨ e.k = 9 then [entName e.k.toNat, decI e.p]
 else [entName e.k.toNat, decI e.c]
def entT (e : Ent) : List UInt8 := jnL 32 (entW e)
theorem entW_ne (e : Ent) : entW e ≠ [] := by unfold entW; (repeat' split) <;> simp
theorem may_cases {e : Ent} (h : e.may = true) :
 ((e.k = 0 ∨ e.k = 1) ∧ e = ⟨e.k, 0, 0, 0, 0, 0⟩) ∨
 (e = ⟨3, e.c, e.t, e.r, e.m, 0⟩ ∧ 1 ≤ e.c ∧ e.c ≤ 8 ∧ 1 ≤ e.t ∧ e.t ≤ 250 ∧ 0 ≤ e.r ∧ e.r ≤ 250 ∧ 1 ≤ e.m ∧ e.m ≤ 4) ∨
 ((e.k = 2 ∨ e.k = 4 ∨ e.k = 5 ∨ e.k = 6) ∧ e = ⟨e.k, e.c, 0, 0, 0, 0⟩ ∧ 1 ≤ e.c ∧ e.c ≤ 8) ∨
 ((e.k = 7 ∨ e.k = 8 ∨ e.k = 9) ∧ e = ⟨e.k, 0, 0, 0, 0, e.p⟩ ∧ 0 ≤ e.p ∧ e.p < 16777216) := by
 obtain ⟨k, c, t, r, m, p⟩ := e
 unfold Ent.may entB at h
 simp only at h ⊢
 split at h
 ·rename_i hk; subst hk
  obtain ⟨a, b, c', d⟩ := of_decide_eq_true h
  subst d
  exact .inr (.inl ⟨rfl, c'.1, c'.2, a.1, a.2.1, a.2.2.1, a.2.2.2, b.1, b.2⟩)
 ·split at h
  ·rename_i _ hk
   obtain ⟨a, b, c', d, e⟩ := of_decide_eq_true h
   subst b; subst c'; subst d; subst e
   exact .inr (.inr (.inl ⟨hk, rfl, a.1, a.2⟩))
  ·split at h
   ·rename_i _ _ hk
    obtain ⟨a, b, c', d, e⟩ := of_decide_eq_true h
    subst a; subst b; subst c'; subst d; subst e
    exact .inl ⟨hk, rfl⟩
   ·split at h
    ·rename_i _ _ _ hk
     obtain ⟨a, b, c', d, e⟩ := of_decide_eq_true h
     subst b; subst c'; subst d; subst e
     exact .inr (.inr (.inr ⟨hk, rfl, a.1, a.2⟩))
    ·cases h
theorem may_lt {e : Ent} (h : e.may = true) : 0 ≤ e.k ∧ e.k ≤ 9 := by
 rcases may_cases h with ⟨q, _⟩ | ⟨q, _⟩ | ⟨q, _⟩ | ⟨q, _⟩
 ·omega
 ·rw [q]; simp
 ·omega
 ·omega
theorem entName_no (k : Nat) : (32 : UInt8) ∉ entName k ∧ (10 : UInt8) ∉ entName k := by
 unfold entName; split <;> decide
theorem entW_no {e : Ent} (h : e.may = true) : ∀ w ∈ entW e, (32 : UInt8) ∉ w ∧ (10 : UInt8) ∉ w := by
 have hc := decI_no e.c
 have hp := decI_no e.p
 have hm := @modeW_no e.m
 have ht : e.k = 3 → (32 : UInt8) ∉ textI e.t e.r ∧ (10 : UInt8) ∉ textI e.t e.r := by
  intro hk
  rcases may_cases h with ⟨q, _⟩ | ⟨q, a⟩ | ⟨q, _⟩ | ⟨q, _⟩
  ·omega
  ·exact text_no (by omega) (by omega)
  ·omega
  ·omega
 intro w hw
 unfold entW at hw
 repeat' split at hw
 all_goals simp only [List.mem_cons, List.not_mem_nil, or_false] at hw
 ·subst hw; exact entName_no _
 ·rcases hw with rfl | rfl | rfl | rfl
  ·exact entName_no 3
  ·exact hc
  ·exact ht (by omega)
  ·exact hm
 ·rcases hw with rfl | rfl
  ·exact entName_no _
  ·exact hp
 ·rcases hw with rfl | rfl
  ·exact entName_no _
  ·exact hc
theorem entT_sp {e : Ent} (h : e.may = true) : spL 32 (entT e) = entW e := sp_jn (fun w hw => (entW_no h w hw).1) (entW_ne e)
def entChk (e : Ent) : Option Ent := if e.may = true then some e else none
theorem entChk_iff {a e : Ent} : entChk a = some e ↔ a = e ∧ e.may = true := by
 unfold entChk
 constructor
 ·intro h
  split at h
  ·rename_i hf; obtain rfl := Option.some.inj h; exact ⟨rfl, hf⟩
  ·cases h
 ·rintro ⟨rfl, h⟩; rw [if_pos h]
def entR (k : Nat) : List (List UInt8) → Option Ent
 | [] => if k = 0 ∨ k = 1 then entChk ⟨(k : Int), 0, 0, 0, 0, 0⟩ else none
 | [a] => match numT a with
  | some x => if k = 7 ∨ k = 8 ∨ k = 9 then entChk ⟨(k : Int), 0, 0, 0, 0, x⟩ else if k = 2 ∨ k = 4 ∨ k = 5 ∨ k = 6 then entChk ⟨(k : Int), x, 0, 0, 0, 0⟩ else none
  | none => none
 | [a, b, c] => match numT a, parseL b with
  | some x, .inl (t, r) => if k = 3 then (if modeT c = 0 then none else entChk ⟨3, x, t, r, modeT c, 0⟩) else none
  | _, _ => none
 | _ => none
def entNo (w : List UInt8) : Nat :=
 if w = entName 0 then 0 else if w = entName 1 then 1 else if w = entName 2 then 2 else if w = entName 3 then 3 else if w = entName 4 then 4
 else if w = entName 5 then 5 else if w = entName 6 then 6 else if w = entName 7 then 7 else if w = entName 8 then 8 else if w = entName 9 then 9 else 10
theorem entNo_is {w : List UInt8} (h : entNo w ≠ 10) : entName (entNo w) = w ∧ entNo w ≤ 9 := by
 unfold entNo at h ⊢
 repeat' split at h
 all_goals first | exact absurd rfl h | skip
 all_goals simp_all
theorem entNo_name : ∀ k, k ≤ 9 → entNo (entName k) = k := by
 intro k h2
 have : k = 0 ∨ k = 1 ∨ k = 2 ∨ k = 3 ∨ k = 4 ∨ k = 5 ∨ k = 6 ∨ k = 7 ∨ k = 8 ∨ k = 9 := by omega
 rcases this with rfl | rfl | rfl | rfl | rfl | rfl | rfl | rfl | rfl | rfl <;> rfl
def entP (L : List UInt8) : Option Ent := match spL 32 L with
 | w :: r => if entNo w = 10 then none else entR (entNo w) r
 | [] => none
theorem entR_is {k : Nat} {r : List (List UInt8)} {e : Ent} (hk : k ≤ 9) (h : entR k r = some e) : e.may = true ∧ entW e = entName k :: r := by
 unfold entR at h
 split at h
 ·split at h
  ·rename_i h01
   obtain ⟨rfl, hf⟩ := entChk_iff.1 h
   refine ⟨hf, ?_⟩
   rcases h01 with rfl | rfl <;> simp [entW]
  ·cases h
 ·rename_i a
  split at h
  ·rename_i x hx
   obtain ⟨rfl, hx⟩ := numT_iff.1 hx
   split at h
   ·rename_i h7
    obtain ⟨rfl, hf⟩ := entChk_iff.1 h
    refine ⟨hf, ?_⟩
    rcases h7 with rfl | rfl | rfl <;> simp [entW, decI]
   ·split at h
    ·rename_i h2
     obtain ⟨rfl, hf⟩ := entChk_iff.1 h
     refine ⟨hf, ?_⟩
     rcases h2 with rfl | rfl | rfl | rfl <;> simp [entW, decI]
    ·cases h
  ·cases h
 ·rename_i a b c
  split at h
  ·rename_i x t r hx hp
   obtain ⟨rfl, hx⟩ := numT_iff.1 hx
   obtain ⟨p1, p2, p3, rfl⟩ := parse_is hp
   split at h
   ·rename_i h3; subst h3
    split at h
    ·cases h
    ·rename_i hm
     obtain ⟨rfl, hf⟩ := entChk_iff.1 h
     obtain ⟨m1, m2⟩ := mode_is (s := c) (by omega)
     refine ⟨hf, ?_⟩
     simp [entW, decI, textI, modeW, m1]
   ·cases h
  ·cases h
 ·cases h
theorem entR_of {e : Ent} (h : e.may = true) : ∃ r, entW e = entName e.k.toNat :: r ∧ entR e.k.toNat r = some e := by
 have hff := h
 rcases may_cases h with ⟨hk, q⟩ | ⟨q, a1, a2, b1, b2, c1, c2, d1, d2⟩ | ⟨hk, q, a1, a2⟩ | ⟨hk, q, a1, a2⟩
 ·rw [q] at hff ⊢
  generalize e.k = k at *
  rcases hk with rfl | rfl
  ·exact ⟨[], by simp [entW], by simp [entR, entChk_iff]; exact hff⟩
  ·exact ⟨[], by simp [entW], by simp [entR, entChk_iff]; exact hff⟩
 ·rw [q] at hff ⊢
  generalize e.c = x at *
  generalize e.t = t at *
  generalize e.r = r at *
  generalize e.m = m at *
  obtain ⟨n, rfl⟩ := Int.eq_ofNat_of_zero_le (show 0 ≤ x by omega)
  obtain ⟨t, rfl⟩ := Int.eq_ofNat_of_zero_le (show 0 ≤ t by omega)
  obtain ⟨r, rfl⟩ := Int.eq_ofNat_of_zero_le (show 0 ≤ r by omega)
  obtain ⟨m, rfl⟩ := Int.eq_ofNat_of_zero_le (show 0 ≤ m by omega)
  have hm := mode_of (m := m) (by omega) (by omega)
  have hp := parse_text (t := t) (r := r) (by omega) (by omega)
  have hn := dec_num (n := n) (by omega)
  have h0 : ¬ m = 0 := by omega
  exact ⟨[decL n, textL t r, modeL m], by simp [entW, decI, textI, modeW], by simp [entR, hn, hp, hm, h0, entChk_iff]; exact hff⟩
 ·rw [q] at hff ⊢
  generalize e.c = x at *
  generalize e.k = k at *
  obtain ⟨n, rfl⟩ := Int.eq_ofNat_of_zero_le (show 0 ≤ x by omega)
  have hn := dec_num (n := n) (by omega)
  rcases hk with rfl | rfl | rfl | rfl
  all_goals exact ⟨[decL n], by simp [entW, decI], by simp [entR, hn, entChk_iff]; exact hff⟩
 ·rw [q] at hff ⊢
  generalize e.p = x at *
  generalize e.k = k at *
  obtain ⟨n, rfl⟩ := Int.eq_ofNat_of_zero_le (show 0 ≤ x by omega)
  have hn := dec_num (n := n) (by omega)
  rcases hk with rfl | rfl | rfl
  all_goals exact ⟨[decL n], by simp [entW, decI], by simp [entR, hn, entChk_iff]; exact hff⟩
theorem entP_iff {L : List UInt8} {e : Ent} : entP L = some e ↔ e.may = true ∧ entT e = L := by
 unfold entP
 constructor
 ·intro h
  split at h
  ·rename_i w r hs
   split at h
   ·cases h
   ·rename_i h0
    obtain ⟨n1, n2⟩ := entNo_is h0
    obtain ⟨a, b⟩ := entR_is n2 h
    refine ⟨a, ?_⟩
    unfold entT
    rw [b, n1, ← hs, jn_sp]
  ·cases h
 ·rintro ⟨a, rfl⟩
  obtain ⟨r, b, c⟩ := entR_of a
  rw [entT_sp a, b]
  have hk := may_lt a
  simp only
  rw [entNo_name _ (by omega), if_neg (by omega), c]
def entCand (k : Nat) (ws : List (List UInt8)) : Ent :=
 let n := numR (wordR ws 1)
 let at' := resR (wordR ws 2)
 if k = 3 then ⟨3, n, at'.1, at'.2, modeT (wordR ws 3), 0⟩
 else if 2 ≤ k ∧ k ≤ 6 then ⟨(k : Int), n, 0, 0, 0, 0⟩
 else if 7 ≤ k then ⟨(k : Int), 0, 0, 0, 0, n⟩
 else ⟨(k : Int), 0, 0, 0, 0, 0⟩
theorem ecand_of {e : Ent} (h : e.may = true) : entCand e.k.toNat (entW e) = e := by
 rcases may_cases h with ⟨hk, q⟩ | ⟨q, a1, a2, b1, b2, c1, c2, d1, d2⟩ | ⟨hk, q, a1, a2⟩ | ⟨hk, q, a1, a2⟩
 ·rw [q]
  generalize e.k = k at *
  rcases hk with rfl | rfl <;> rfl
 ·rw [q]
  generalize e.c = x at *
  generalize e.t = t at *
  generalize e.r = r at *
  generalize e.m = m at *
  obtain ⟨n, rfl⟩ := Int.eq_ofNat_of_zero_le (show 0 ≤ x by omega)
  obtain ⟨t, rfl⟩ := Int.eq_ofNat_of_zero_le (show 0 ≤ t by omega)
  obtain ⟨r, rfl⟩ := Int.eq_ofNat_of_zero_le (show 0 ≤ r by omega)
  obtain ⟨m, rfl⟩ := Int.eq_ofNat_of_zero_le (show 0 ≤ m by omega)
  have hm := mode_of (m := m) (by omega) (by omega)
  have hp := parse_text (t := t) (r := r) (by omega) (by omega)
  have hn := dec_num (n := n) (by omega)
  simp [entW, decI, textI, modeW, entCand, wordR, numR, resR, hn, hp, hm]
 ·rw [q]
  generalize e.c = x at *
  generalize e.k = k at *
  obtain ⟨n, rfl⟩ := Int.eq_ofNat_of_zero_le (show 0 ≤ x by omega)
  have hn := dec_num (n := n) (by omega)
  rcases hk with rfl | rfl | rfl | rfl <;> simp [entW, decI, entCand, wordR, numR, hn]
 ·rw [q]
  generalize e.p = x at *
  generalize e.k = k at *
  obtain ⟨n, rfl⟩ := Int.eq_ofNat_of_zero_le (show 0 ≤ x by omega)
  have hn := dec_num (n := n) (by omega)
  rcases hk with rfl | rfl | rfl <;> simp [entW, decI, entCand, wordR, numR, hn]
def entD (L : List UInt8) : Option Ent :=
 let ws := spL 32 L
 let k := entNo (wordR ws 0)
 if k = 10 then none else if (entCand k ws).may = true ∧ entT (entCand k ws) = L then some (entCand k ws) else none
theorem entD_eq (L : List UInt8) : entD L = entP L := by
 cases h : entP L with
 | some e =>
  obtain ⟨a, rfl⟩ := entP_iff.1 h
  have hk := may_lt a
  obtain ⟨r, b, c⟩ := entR_of a
  have hw : wordR (spL 32 (entT e)) 0 = entName e.k.toNat := by rw [entT_sp a, b]; rfl
  unfold entD
  simp only [hw, entNo_name _ (show e.k.toNat ≤ 9 by omega)]
  rw [if_neg (by omega), entT_sp a, ecand_of a, if_pos ⟨a, rfl⟩]
 | none =>
  unfold entD
  simp only
  split
  ·rfl
  ·split
   ·rename_i hc
    have := entP_iff.2 hc
    rw [h] at this; cases this
   ·rfl
end Go.Proofs.YtjpjlfjaapfnkaaGreatDoor
namespace Go.Proofs.YtjpjlfjaapfnkaaGreatDoor
theorem val_mono (l : List UInt8) : ∀ m, m ≤ Go.Proofs.YtjpjlfjaapfnkaaGreatDoor.valL m l := by
 induction l with
 | nil => intro m; exact Nat.le_refl _
 | cons c r ih =>
  intro m
  have := ih (10 * m + (c.toNat - 48))
  show m ≤ valL (10 * m + (c.toNat - 48)) r
  omega
theorem uint_val : ∀ (l : List UInt8) (m : Nat), l.all isD = true → valL m l ≤ 99999999 → Lib.parseUint10 m l = .ok (valL m l) := by
 intro l
 induction l with
 | nil => intro m _ _; rfl
 | cons c r ih =>
  intro m h hv
  rw [List.all_cons, Bool.and_eq_true] at h
  have h1 := isD_iff.1 h.1
  have h3 : valL m (c :: r) = valL (m * 10 + (c.toNat - 48)) r := by
   show valL (10 * m + (c.toNat - 48)) r = _
   rw [Nat.mul_comm]
  rw [h3] at hv ⊢
  have h2 := val_mono r (m * 10 + (c.toNat - 48))
  rw [Lib.parseUint10, if_pos h1, if_neg (by omega), if_neg (by omega)]
  exact ih _ h.2 hv
theorem atoi_dec {n : Nat} (h : n ≤ 99999999) : Lib.atoiAll (decL n) = .ok (n : Int) := by
 have hp := dec_pos n
 have hd := dec_digits n
 have hv := dec_val n
 cases hl : decL n with
 | nil => rw [hl] at hp; simp at hp
 | cons c r =>
  rw [hl] at hd hv
  have hc : isD c = true := by rw [List.all_cons, Bool.and_eq_true] at hd; exact hd.1
  have h1 := isD_iff.1 hc
  unfold Lib.atoiAll
  simp only
  rw [if_neg (by omega)]
  unfold Lib.parseMag
  rw [if_neg (by simp), uint_val _ 0 hd (by omega), hv]
  simp only
  rw [if_neg (by omega), if_neg (by omega), if_neg (by omega)]
theorem num_ok {s : List UInt8} {v : Int} (h0 : 0 ≤ v) (h1 : v ≤ 99999999) (h : Lib.itoa v = s) : numT s = some v.toNat := by
 refine numT_iff.2 ⟨?_, by omega⟩
 rw [← h]; unfold Lib.itoa decL; rw [if_neg (by omega)]
theorem num_no {s : List UInt8} {v : Int} (ha : Lib.atoiAll s = .ok v) (h : ¬ (0 ≤ v ∧ v ≤ 99999999 ∧ Lib.itoa v = s)) : numT s = none := by
 cases hn : numT s with
 | none => rfl
 | some n =>
  obtain ⟨rfl, hm⟩ := numT_iff.1 hn
  rw [atoi_dec hm] at ha
  injection ha with e
  subst e
  exact absurd ⟨by omega, by omega, by unfold Lib.itoa decL; rw [if_neg (by omega)]; simp⟩ h
theorem num_syntax {s : List UInt8} (ha : Lib.atoiAll s = .syntax) : numT s = none := by
 cases hn : numT s with
 | none => rfl
 | some n => obtain ⟨rfl, hm⟩ := numT_iff.1 hn; rw [atoi_dec hm] at ha; cases ha
theorem num_range {s : List UInt8} (ha : Lib.atoiAll s = .range) : numT s = none := by
 cases hn : numT s with
 | none => rfl
 | some n => obtain ⟨rfl, hm⟩ := numT_iff.1 hn; rw [atoi_dec hm] at ha; cases ha
theorem itoa_nat (n : Nat) : Lib.itoa (n : Int) = decL n := by unfold Lib.itoa decL; rw [if_neg (by omega)]; simp
theorem splitK_sp (c : UInt8) : ∀ (s : List UInt8) (k : Nat), s.count c = k → Lib.splitK [c] 0 k s = spL c s := by
 intro s
 induction s with
 | nil => intro k hk; simp at hk; subst hk; rfl
 | cons x r ih =>
  intro k hk
  unfold spL
  by_cases hx : x = c
  ·subst hx
   rw [if_pos rfl]
   rw [List.count_cons_self] at hk
   obtain ⟨j, rfl⟩ : ∃ j, k = j + 1 := ⟨k - 1, by omega⟩
   have h0 : Lib.index (x :: r) [x] = 0 := by simp [Lib.index]
   unfold Lib.splitK
   rw [h0, if_neg (by decide)]
   rw [← ih j (by omega)]
   rfl
  ·rw [if_neg hx]
   rw [List.count_cons_of_ne hx] at hk
   have hr := ih k hk
   rw [← hr]
   have hi : Lib.index (x :: r) [c] = if Lib.index r [c] == -1 then -1 else Lib.index r [c] + 1 := by
    have hcx : ¬ c = x := fun e => hx e.symm
    conv => lhs; unfold Lib.index
    rw [if_neg (by simp [hcx])]
   cases k with
   | zero => rfl
   | succ j =>
    unfold Lib.splitK
    rw [hi]
    have hge := Lib.index_ge r [c]
    by_cases hm : Lib.index r [c] = -1
    ·rw [hm]; rfl
    ·have h1 : (Lib.index r [c] == -1) = false := by simpa using hm
     rw [h1]
     have h2 : (Lib.index r [c] + 1 == -1) = false := by simp; omega
     simp only [Bool.false_eq_true, if_false, h2]
     have e : (Lib.index r [c] + 1).toNat = (Lib.index r [c]).toNat + 1 := by omega
     rw [e]
     simp only [Nat.add_zero, List.take_succ_cons, List.length_cons, List.length_nil, Nat.zero_add, List.drop_succ_cons]
theorem sp_split (c : UInt8) (s : ByteArray) : (Lib.splitB ⟨#[c]⟩ 0 (Lib.countB s ⟨#[c]⟩) s).map (·.data.toList) = spL c s.data.toList := by
 rw [Lib.splitB_data]
 refine splitK_sp c _ _ ?_
 rw [← Lib.count_one]
theorem sp_len (c : UInt8) (s : ByteArray) : Lib.countB s ⟨#[c]⟩ + 1 = (spL c s.data.toList).length := by
 rw [← sp_split, List.length_map, Lib.splitB_all ⟨#[c]⟩ (Nat.le_refl 1) 0 _ s rfl]
end Go.Proofs.YtjpjlfjaapfnkaaGreatDoor
namespace Go.Proofs.YtjpjlfjaapfnkaaGreatDoor
def entAt (bs : List Int) (j : Nat) : Ent := rdF (bs.getD (5 * j) 0) (bs.getD (5 * j + 1) 0) (bs.getD (5 * j + 2) 0) (bs.getD (5 * j + 3) 0) (bs.getD (5 * j + 4) 0)
def flat (es : List Ent) : List Value := es.flatMap Ent.cells
theorem flat_append (a b : List Ent) : flat (a ++ b) = flat a ++ flat b := by simp [flat]
theorem flat_length (es : List Ent) : (flat es).length = es.length * 6 := by
 induction es with
 | nil => rfl
 | cons e r ih => rw [show flat (e :: r) = e.cells ++ flat r from rfl, List.length_append, ih]; simp [Ent.cells]; omega
theorem cells_one (e : Ent) : ∀ u ∈ e.cells, u.oneCell' = true := by simp [Ent.cells, Value.oneCell']
end Go.Proofs.YtjpjlfjaapfnkaaGreatDoor
namespace Go.Proofs.YtjpjlfjaapfnkaaGreatDoor
end Go.Proofs.YtjpjlfjaapfnkaaGreatDoor
namespace Go.Proofs.YtjpjlfjaapfnkaaGreatDoor
def Ent.ok (e : Ent) : Bool := entB e.k e.c e.t e.r e.m e.p
def Ent.wr (e : Ent) : List Int := if 7 ≤ e.k then [e.k, e.p / 65536, e.p / 256 % 256, e.p % 256, 0] else [e.k, e.c, e.t, e.r, e.m]
theorem ok_cases {k c t r m p : Int} (h : (⟨k, c, t, r, m, p⟩ : Ent).ok = true) :
 (k = 3 ∧ (1 ≤ t ∧ t ≤ 250 ∧ 0 ≤ r ∧ r ≤ 250) ∧ (1 ≤ m ∧ m ≤ 4) ∧ (1 ≤ c ∧ c ≤ 8) ∧ p = 0) ∨
 ((k = 2 ∨ k = 4 ∨ k = 5 ∨ k = 6) ∧ (1 ≤ c ∧ c ≤ 8) ∧ t = 0 ∧ r = 0 ∧ m = 0 ∧ p = 0) ∨
 ((k = 0 ∨ k = 1) ∧ c = 0 ∧ t = 0 ∧ r = 0 ∧ m = 0 ∧ p = 0) ∨
 ((k = 7 ∨ k = 8 ∨ k = 9) ∧ (0 ≤ p ∧ p < 16777216) ∧ c = 0 ∧ t = 0 ∧ r = 0 ∧ m = 0) := by
 unfold Ent.ok entB at h
 simp only at h
 by_cases h3 : k = 3
 ·rw [if_pos h3] at h; have := of_decide_eq_true h; exact .inl ⟨h3, this⟩
 ·rw [if_neg h3] at h
  by_cases h4 : k = 2 ∨ k = 4 ∨ k = 5 ∨ k = 6
  ·rw [if_pos h4] at h; have := of_decide_eq_true h; exact .inr (.inl ⟨h4, this⟩)
  ·rw [if_neg h4] at h
   by_cases h5 : k = 0 ∨ k = 1
   ·rw [if_pos h5] at h; have := of_decide_eq_true h; exact .inr (.inr (.inl ⟨h5, this⟩))
   ·rw [if_neg h5] at h
    by_cases h6 : k = 7 ∨ k = 8 ∨ k = 9
    ·rw [if_pos h6] at h; have := of_decide_eq_true h; exact .inr (.inr (.inr ⟨h6, this⟩))
    ·rw [if_neg h6] at h; cases h
theorem rd_wr {e : Ent} (h : e.ok = true) : entAt e.wr 0 = e := by
 obtain ⟨k, c, t, r, m, p⟩ := e
 have hc := ok_cases h
 clear h
 unfold entAt Ent.wr
 simp only
 by_cases h7 : 7 ≤ k
 ·rw [if_pos h7]
  simp only [List.getD_cons_zero, List.getD_cons_succ, Nat.mul_zero, Nat.zero_add]
  unfold rdF
  rw [if_neg (by omega), if_neg (by omega), if_neg (by omega), if_pos (by omega)]
  simp only [Ent.mk.injEq, true_and]
  omega
 ·rw [if_neg h7]
  simp only [List.getD_cons_zero, List.getD_cons_succ, Nat.mul_zero, Nat.zero_add]
  unfold rdF
  rcases hc with hc | hc | hc | hc
  ·rw [if_neg (by omega), if_neg (by omega), if_pos (by omega)]
   simp only [Ent.mk.injEq, true_and]; omega
  ·rw [if_neg (by omega), if_pos (by omega)]
   simp only [Ent.mk.injEq, true_and]; omega
  ·by_cases h1 : k = 1
   ·rw [if_pos (by omega)]
    simp only [Ent.mk.injEq]; omega
   ·rw [if_neg (by omega), if_neg (by omega), if_neg (by omega), if_neg (by omega)]
    simp only [Ent.none, Ent.mk.injEq]; omega
  ·omega
theorem rdF_ok (a b c d e : Int) (hb : 0 ≤ b ∧ b ≤ 255) (hc : 0 ≤ c ∧ c ≤ 255) (hd : 0 ≤ d ∧ d ≤ 255) : (rdF a b c d e).ok = true := by
 unfold rdF
 split
 ·rfl
 ·split
  ·rename_i h; unfold Ent.ok entB; simp only; rw [if_neg (by omega), if_pos h.1]; exact decide_eq_true ⟨h.2.1, by simp⟩
  ·split
   ·rename_i h; unfold Ent.ok entB; simp only [if_true]; exact decide_eq_true ⟨h.2.2.1, h.2.2.2, h.2.1, trivial⟩
   ·split
    ·rename_i h; unfold Ent.ok entB; simp only; rw [if_neg (by omega), if_neg (by omega), if_neg (by omega), if_pos (by omega)]; exact decide_eq_true ⟨by omega, by simp⟩
    ·rfl
end Go.Proofs.YtjpjlfjaapfnkaaGreatDoor
namespace Go.Proofs.YtjpjlfjaapfnkaaGreatDoor
open Go.ChangeShapes Go.WideShapes Go.ChangeAt Go.RowKit
def Ent.inR (e : Ent) : Bool := decide (0 ≤ e.k) && decide (e.k ≤ 9) && decide (0 ≤ e.c) && decide (e.c ≤ 255) && decide (0 ≤ e.t) && decide (e.t ≤ 255) && decide (0 ≤ e.r) && decide (e.r ≤ 255) && decide (0 ≤ e.m) && decide (e.m ≤ 255) && decide (0 ≤ e.p) && decide (e.p ≤ 16777215)
theorem inR_iff {e : Ent} : e.inR = true ↔ (0 ≤ e.k ∧ e.k ≤ 9) ∧ (0 ≤ e.c ∧ e.c ≤ 255) ∧ (0 ≤ e.t ∧ e.t ≤ 255) ∧ (0 ≤ e.r ∧ e.r ≤ 255) ∧ (0 ≤ e.m ∧ e.m ≤ 255) ∧ 0 ≤ e.p ∧ e.p ≤ 16777215 := by
 unfold Ent.inR
 simp only [Bool.and_eq_true, decide_eq_true_eq]
 omega
theorem ok_inR {e : Ent} (h : e.ok = true) : e.inR = true := by
 have hc := ok_cases (k := e.k) (c := e.c) (t := e.t) (r := e.r) (m := e.m) (p := e.p) h
 rw [inR_iff]
 omega
theorem wr_rangeR {e : Ent} (h : e.inR = true) : ∀ i, 0 ≤ e.wr.getD i 0 ∧ e.wr.getD i 0 ≤ 255 := by
 obtain ⟨h1, h2, h3, h4, h5, h6⟩ := inR_iff.1 h
 intro i
 unfold Ent.wr
 split
 ·match i with
  | 0 => simp; omega
  | 1 => simp; omega
  | 2 => simp; omega
  | 3 => simp; omega
  | 4 => simp
  | i + 5 => simp
 ·match i with
  | 0 => simp; omega
  | 1 => simp; omega
  | 2 => simp; omega
  | 3 => simp; omega
  | 4 => simp; omega
  | i + 5 => simp
theorem rdF_eq_ok {e : Ent} (h : e.inR = true) (he : rdF (e.wr.getD 0 0) (e.wr.getD 1 0) (e.wr.getD 2 0) (e.wr.getD 3 0) (e.wr.getD 4 0) = e) : e.ok = true := by
 have := rdF_ok (e.wr.getD 0 0) (e.wr.getD 1 0) (e.wr.getD 2 0) (e.wr.getD 3 0) (e.wr.getD 4 0) (wr_rangeR h 1) (wr_rangeR h 2) (wr_rangeR h 3)
 rwa [he] at this
theorem rdF_ok_eq {e : Ent} (h : e.ok = true) : rdF (e.wr.getD 0 0) (e.wr.getD 1 0) (e.wr.getD 2 0) (e.wr.getD 3 0) (e.wr.getD 4 0) = e := by
 have := rd_wr h
 unfold entAt at this
 simpa using this
end Go.Proofs.YtjpjlfjaapfnkaaGreatDoor
namespace Go.Proofs.YtjpjlfjaapfnkaaGreatDoor.C20
def evC (e : Ev) : Array Value := #[.int .i64 e.kind, .int .i64 e.client, .int .i64 e.tx, .int .i64 e.table, .int .i64 e.row, .int .i64 e.mode, .int .i64 e.code]
end Go.Proofs.YtjpjlfjaapfnkaaGreatDoor.C20
namespace Go.Proofs.YtjpjlfjaapfnkaaGreatDoor
open C20 (Ev formB evC)
def evS (e : Ev) : List UInt8 := if evOk e = true then evT e else []
end Go.Proofs.YtjpjlfjaapfnkaaGreatDoor
namespace Go.Proofs.YtjpjlfjaapfnkaaGreatDoor
open C20 (Ev formB evC)
def evE (e : Ev) : Int := if formB e = true then (if 99999999 < e.tx then 2 else 0) else 5
end Go.Proofs.YtjpjlfjaapfnkaaGreatDoor
namespace Go.Proofs.YtjpjlfjaapfnkaaGreatDoor
open C20 (Ev formB evC)
theorem evE_ok {e : Ev} (h : evOk e = true) : evE e = 0 := by
 unfold evOk at h; rw [Bool.and_eq_true, decide_eq_true_eq] at h
 unfold evE; rw [if_pos h.1, if_neg (by omega)]
end Go.Proofs.YtjpjlfjaapfnkaaGreatDoor
namespace Go.Proofs.YtjpjlfjaapfnkaaGreatDoor
open C20 (Ev formB evC)
theorem evE_no {e : Ev} (h : ¬ evOk e = true) : evE e = 5 ∨ evE e = 2 := by
 unfold evE
 by_cases hf : formB e = true
 ·rw [if_pos hf]
  by_cases hx : 99999999 < e.tx
  ·rw [if_pos hx]; exact .inr rfl
  ·exact absurd (by unfold evOk; rw [hf]; simpa using hx) h
 ·rw [if_neg hf]; exact .inl rfl
end Go.Proofs.YtjpjlfjaapfnkaaGreatDoor

/-
  The document's list as a value: its Push and Leave, whatever the list. No other conditions.
-/
import Derived.Test.YtpbgdldaojpjkaaAlive07
namespace Go.Proofs.Ytpbgdldaojpjkaa
open Go.ChangeShapes Go.WideShapes Go.ChangeAt Go.RowKit
set_option linter.unusedVariables false

/-- the blocks of an address: its own -/
def SA (A : Option Addr) (k : Nat) : Prop := ∃ off, A = some ⟨k, off, none⟩
def ListIs (w : World) (A : Option Addr) (n c : Nat) (es : List Wt) : Prop :=
  RdW w A es ∧ es.length = n ∧ n ≤ c ∧ c ≤ maxLen ∧ ((A = none ∧ n = 0 ∧ c = 0) ∨ ∃ gx ox, A = some ⟨gx, ox, none⟩)

theorem listIs_nil (w : World) : ListIs w none 0 0 [] := ⟨rdw_nil _ _, rfl, Nat.le_refl _, by unfold maxLen; omega, .inl ⟨rfl, rfl, rfl⟩⟩
theorem ListIs.below {w w1 : World} {A : Option Addr} {n c : Nat} {es : List Wt} (h : ListIs w A n c es) (hb : Below w.heap.size w w1) : ListIs w1 A n c es := ⟨h.1.below hb, h.2⟩
/-- where the list's own block is as it was, the list is -/
theorem ListIs.kept {w w1 : World} {A : Option Addr} {n c : Nat} {es : List Wt} (h : ListIs w A n c es) (hs : w.heap.size ≤ w1.heap.size) (hk : ∀ k, SA A k → w1.heap[k]? = w.heap[k]?) : ListIs w1 A n c es := by
  refine ⟨?_, h.2⟩
  obtain ⟨g, off, hA, hc⟩ := h.1
  refine ⟨g, off, fun hn => ⟨(hA hn).1, Nat.lt_of_lt_of_le (hA hn).2 hs⟩, fun i hi => ?_⟩
  have hg := hk g ⟨off, (hA (by omega)).1⟩
  obtain ⟨p0, p1, p2, p3⟩ := hc i hi
  exact ⟨(World.cell?_of_block (a := ⟨g, _, none⟩) hg).trans p0, (World.cell?_of_block (a := ⟨g, _, none⟩) hg).trans p1, (World.cell?_of_block (a := ⟨g, _, none⟩) hg).trans p2, (World.cell?_of_block (a := ⟨g, _, none⟩) hg).trans p3⟩

theorem listIs_of_own {w : World} {B : Nat} {v : Value} {n : Nat} {es : List Wt} (h : w.ownsRow B 33 4 v n (flatW es)) :
    ∃ A c, v = .slice A n c ∧ ListIs w A n c es ∧ ∀ k, SA A k → B ≤ k ∧ k < w.heap.size := by
  have hlt := h.lt
  have h2 := h.2
  obtain ⟨hl, A, c, rfl, hc, hr⟩ := rdw_of_own h
  refine ⟨A, c, rfl, ⟨hr, hl, hc, ?_, ?_⟩, fun k ⟨off, hA⟩ => hlt k (by rw [hA]; rfl)⟩
  · rcases h2 with ⟨he, _⟩ | ⟨g, cap, cur, he, _, _, _, hm, _⟩
    · cases he; unfold maxLen; omega
    · cases he; exact hm
  · rcases h2 with ⟨he, h0⟩ | ⟨g, cap, cur, he, _⟩
    · cases he; exact .inl ⟨rfl, rfl, rfl⟩
    · cases he; exact .inr ⟨_, _, rfl⟩

/-- what the list is then, at which address, behind a call that only makes memory -/
def Then (w w' : World) (A : Option Addr) (es' : List Wt) (v : Value) : Prop :=
  ∃ A' n' c', v = .slice A' n' c' ∧ ListIs w' A' n' c' es' ∧ ∀ k, SA A' k → SA A k ∨ (w.heap.size ≤ k ∧ k < w'.heap.size)

theorem dPush_same {es : List Wt} {lim : Int} {e : Wt} (h : dPushE es lim e ≠ 0) : dPush es lim e = es := by unfold dPush; rw [if_neg h]
theorem dLeave_same {es : List Wt} {t : Int} (h : ¬ findW es t < es.length) : dLeave es t = es := by unfold dLeave; rw [if_neg h]

theorem rpush_v (A : Option Addr) (n c : Nat) (es : List Wt) (lim x s m : Int) (u : Bool) (w : World) (h : ListIs w A n c es) (hn : n ≤ 10000) :
    Calls Try.prog 11 #[.slice A n c, .int .i64 lim, .agg #[.int .i64 x, .int .i64 s, .int .i64 m, .bool u]] w fun r w' => (∃ v, r = .returned (.tuple #[v, .int .i64 (dPushE es lim ⟨x, s, m, u⟩)]) ∧ Then w w' A (dPush es lim ⟨x, s, m, u⟩) v) ∧ Below w.heap.size w w' := by
  obtain ⟨hr, hl, hc, hm, hA⟩ := h
  have hc63 : c ≤ 9223372036854775807 := by unfold maxLen at hm; omega
  have key : ∀ r w', DPushOf w w' A n c es lim ⟨x, s, m, u⟩ r → (∃ v, r = .returned (.tuple #[v, .int .i64 (dPushE es lim ⟨x, s, m, u⟩)]) ∧ Then w w' A (dPush es lim ⟨x, s, m, u⟩) v) ∧ Below w.heap.size w w' := by
    rintro r w' ⟨hb, ⟨h0, rfl⟩ | ⟨h0, v, rfl, hown⟩⟩
    · refine ⟨⟨_, rfl, A, n, c, rfl, ?_, fun k hk => .inl hk⟩, hb⟩
      rw [dPush_same h0]
      exact ListIs.below ⟨hr, hl, hc, hm, hA⟩ hb
    · obtain ⟨A', c', rfl, hL, hB⟩ := listIs_of_own hown
      exact ⟨⟨_, by rw [h0], A', _, c', rfl, hL, fun k hk => .inr (hB k hk)⟩, hb⟩
  rcases hA with ⟨rfl, rfl, rfl⟩ | ⟨gx, ox, rfl⟩
  · have he : es = [] := List.eq_nil_of_length_eq_zero hl
    subst he
    exact (rpush_nil lim x s m u w).mono key
  · exact (rpush_any gx ox n c es lim x s m u w hr hl hn hc hc63).mono key

theorem rleave_v (A : Option Addr) (n c : Nat) (es : List Wt) (t : Int) (w : World) (h : ListIs w A n c es) (hn : n ≤ 10000) :
    Calls Try.prog 12 #[.slice A n c, .int .i64 t] w fun r w' => (∃ v, r = .returned (.tuple #[v, (if findW es t < es.length then es.getD (findW es t) Wt.none else Wt.none).val, .int .i64 (if findW es t < es.length then 0 else 10)]) ∧ Then w w' A (dLeave es t) v) ∧ Below w.heap.size w w' := by
  obtain ⟨hr, hl, hc, hm, hA⟩ := h
  have hc63 : c ≤ 9223372036854775807 := by unfold maxLen at hm; omega
  have key : ∀ r w', DLeaveOf w w' A n c es t r → (∃ v, r = .returned (.tuple #[v, (if findW es t < es.length then es.getD (findW es t) Wt.none else Wt.none).val, .int .i64 (if findW es t < es.length then 0 else 10)]) ∧ Then w w' A (dLeave es t) v) ∧ Below w.heap.size w w' := by
    rintro r w' ⟨hb, ⟨h0, rfl⟩ | ⟨h0, v, rfl, hown⟩⟩
    · refine ⟨⟨_, by rw [if_neg h0, if_neg h0], A, n, c, rfl, ?_, fun k hk => .inl hk⟩, hb⟩
      rw [dLeave_same h0]
      exact ListIs.below ⟨hr, hl, hc, hm, hA⟩ hb
    · obtain ⟨A', c', rfl, hL, hB⟩ := listIs_of_own hown
      exact ⟨⟨_, by rw [if_pos h0, if_pos h0], A', _, c', rfl, hL, fun k hk => .inr (hB k hk)⟩, hb⟩
  by_cases hf : findW es t < n
  · rcases hA with ⟨rfl, rfl, rfl⟩ | ⟨gx, ox, rfl⟩
    · omega
    · exact (rleave_yes gx ox n c es t w hr hl hn hc hc63 hf).mono key
  · exact (rleave_no A n c es t w hr hl hn hf).mono key
end Go.Proofs.Ytpbgdldaojpjkaa

/-
  A row of those that wait, read cell by cell; small laws on worlds. No conditions.
-/
import Derived.Test.YtpbgdldaojpjkaaWtF
import Derived.Test.YtpbgdldaojpjkaaRows
import Derived.WalkKit
import Derived.ProofKit
import Derived.OpenShut
import Derived.Handy
import Derived.LaidEql
import Derived.Stop.Asserts
import Derived.RowKitTokens
import Derived.LoopTactic
import Derived.RegionTactic
import Derived.ChangeAlike
import Derived.BigQuiet
import Derived.Deep.QuietTactic
import Derived.Deep.Draws
import Derived.Deep.Light
import Derived.Lib.Hide
namespace Go.Proofs.Ytpbgdldaojpjkaa
open Go.ChangeShapes Go.WideShapes Go.ChangeAt Go.RowKit
set_option linter.unusedVariables false

theorem retb {a b : Bool} (h : a = b) : Ending.returned (.bool a) = .returned (.bool b) := by rw [h]
theorem reti {a b : Int} (h : a = b) : Ending.returned (.int .i64 a) = .returned (.int .i64 b) := by rw [h]

theorem belowK {W w' : World} (hb : Below W.heap.size W w') {K : Nat} (hK : W.heap.size = K) : (∀ b o, b < K → w'.cell? ⟨b, o, none⟩ = W.cell? ⟨b, o, none⟩) ∧ (∀ b o, b < K → w'.frozen? ⟨b, o, none⟩ = W.frozen? ⟨b, o, none⟩) ∧ K ≤ w'.heap.size := by
  subst hK
  exact ⟨fun b o h => hb.cell (p := ⟨b, o, none⟩) h, fun b o h => hb.frozen (p := ⟨b, o, none⟩) h, hb.size⟩

theorem lt_of_cell {w : World} {b o : Nat} {v : Value} (h : w.cell? ⟨b, o, none⟩ = some v) : b < w.heap.size := by
  rcases Nat.lt_or_ge b w.heap.size with h' | h'
  · exact h'
  · simp [World.cell?, Array.getElem?_eq_none h'] at h

theorem below_drewN {B : Nat} {a w : World} (h : Below B a w) (n : Nat) : Below B a (w.drewN n) := ⟨h.os, h.tape, h.output, h.size, h.block⟩

theorem add0 (g n : Nat) : (⟨g, 0, none⟩ : Addr).add n = ⟨g, n, none⟩ := by
  unfold Addr.add; by_cases h : n = 0 <;> simp [h]

def Cells4 (w : World) (g o : Nat) (E : Wt) : Prop :=
  w.cell? ⟨g, o, none⟩ = some (.int .i64 E.x) ∧ w.cell? ⟨g, o + 1, none⟩ = some (.int .i64 E.s) ∧ w.cell? ⟨g, o + 2, none⟩ = some (.int .i64 E.m) ∧ w.cell? ⟨g, o + 3, none⟩ = some (.bool E.u)
theorem Cells4.below {w w1 : World} {g o : Nat} {E : Wt} (h : Cells4 w g o E) {B : Nat} (hb : Below B w w1) (hg : g < B) : Cells4 w1 g o E := by
  obtain ⟨a, b, c, d⟩ := h
  exact ⟨(hb.cell (p := ⟨g, _, none⟩) hg).trans a, (hb.cell (p := ⟨g, _, none⟩) hg).trans b, (hb.cell (p := ⟨g, _, none⟩) hg).trans c, (hb.cell (p := ⟨g, _, none⟩) hg).trans d⟩

/-- the slice value (A, its length) holds the waiting ones es -/
def RdW (w : World) (A : Option Addr) (es : List Wt) : Prop :=
  ∃ g off, (0 < es.length → A = some ⟨g, off, none⟩ ∧ g < w.heap.size) ∧ ∀ i, i < es.length → Cells4 w g (off + i * 4) (es.getD i Wt.none)
theorem RdW.below {w w1 : World} {A : Option Addr} {es : List Wt} (h : RdW w A es) (hb : Below w.heap.size w w1) : RdW w1 A es := by
  obtain ⟨g, off, hA, hc⟩ := h
  exact ⟨g, off, fun hn => ⟨(hA hn).1, Nat.lt_of_lt_of_le (hA hn).2 hb.size⟩, fun i hi => (hc i hi).below hb (hA (by omega)).2⟩
theorem rdw_nil (w : World) (A : Option Addr) : RdW w A [] := ⟨0, 0, fun h => by simp at h, fun i h => by simp at h⟩

theorem rdw_of_own {w : World} {B : Nat} {T : TypeId} {v : Value} {n : Nat} {es : List Wt} (h : w.ownsRow B T 4 v n (flatW es)) : es.length = n ∧ ∃ A cap, v = .slice A n cap ∧ n ≤ cap ∧ RdW w A es := by
  have hl : es.length = n := by have := h.1; rw [flatW_length] at this; omega
  refine ⟨hl, ?_⟩
  rcases h.2 with ⟨rfl, h0⟩ | ⟨g, cap, cur, rfl, hg, hh, hc, _⟩
  · subst h0
    exact ⟨none, 0, rfl, Nat.le_refl _, by rw [List.eq_nil_of_length_eq_zero hl]; exact rdw_nil _ _⟩
  · refine ⟨_, cap, rfl, hc, g, 0, fun _ => ⟨rfl, (Array.getElem?_eq_some_iff.1 hh).1⟩, fun i hi => ?_⟩
    have hf := fun j hj => flatW_get es i j hi hj
    have hA : ∀ j u, j < 4 → (es.getD i Wt.none).cells[j]? = some u → w.cell? ⟨g, 4 * i + j, none⟩ = some u := by
      intro j u hj hu
      have := h.cells (g := g) rfl (4 * i + j) u ((hf j hj).trans hu)
      rwa [add0] at this
    rw [Nat.zero_add, Nat.mul_comm i 4]
    exact ⟨by simpa using hA 0 _ (by omega) rfl, hA 1 _ (by omega) rfl, hA 2 _ (by omega) rfl, hA 3 _ (by omega) rfl⟩

theorem own_below {w w' : World} {B : Nat} {e : TypeId} {s n : Nat} {v : Value} {xs : List Value} (h : w.ownsRow B e s v n xs) (hb : Below w.heap.size w w') : w'.ownsRow B e s v n xs := by
  obtain ⟨h1, h2⟩ := h
  refine ⟨h1, ?_⟩
  rcases h2 with h | ⟨g, cap, cur, hv, hg, hh, r⟩
  · exact .inl h
  · exact .inr ⟨g, cap, cur, hv, hg, (hb.block g (Array.getElem?_eq_some_iff.1 hh).1).trans hh, r⟩
theorem own_weaken {w : World} {B B' : Nat} {e : TypeId} {s n : Nat} {v : Value} {xs : List Value} (h : w.ownsRow B e s v n xs) (hB : B' ≤ B) : w.ownsRow B' e s v n xs := by
  refine ⟨h.1, ?_⟩
  rcases h.2 with hn | ⟨g, cap, cur, hv, hg, hr⟩
  · exact .inl hn
  · exact .inr ⟨g, cap, cur, hv, by omega, hr⟩

theorem wait_info : (Try.prog.info? 33).map (fun i => (i.zero, i.size, i.bytes)) = some (some (.agg #[.int .i64 0, .int .i64 0, .int .i64 0, .bool false]), 4, 32) := by kernel_rfl
theorem info_parts {i0 : Option TypeInfo} {z : Option Value} {s b : Nat} (h : i0.map (fun i => (i.zero, i.size, i.bytes)) = some (z, s, b)) : ∃ i, i0 = some i ∧ i.zero = z ∧ i.size = s ∧ i.bytes = b := by
  cases i0 with
  | none => cases h
  | some i => simp at h; exact ⟨i, rfl, h.1, h.2.1, h.2.2⟩

/-- the append of a row of waiting ones onto a row of the call's own -/
theorem run_append_waits (B : Nat) (v : Value) (k : Nat) (xs : List Value) (w : World) (hown : w.ownsRow B 33 4 v k xs) (A : Option Addr) (n c : Nat) (bs : List Wt) (hl : bs.length = n) (h : RdW w A bs) (hA0 : A = none → n = 0) (hB : B ≤ w.heap.size) (hk : k + n ≤ 1000000) :
    ∃ v' w', (Builtin.append_ #[30, 30] 30 #[v, .slice A n c]).run Try.prog w = .ok v' w' ∧ w'.ownsRow B 33 4 v' (k + n) (xs ++ flatW bs) ∧ w.grownBy w' v.ownBlock := by
  obtain ⟨i0, hi0, hz0, hz1, hz2⟩ := info_parts wait_info
  obtain ⟨b, off, hA, hc⟩ := h
  cases A with
  | none =>
    have hn : n = 0 := hA0 rfl
    subst hn
    have hb : bs = [] := List.eq_nil_of_length_eq_zero hl
    subst hb
    refine ⟨v, w, ?_, by simpa [flatW] using hown, World.grownBy.refl w _⟩
    rcases hown.2 with ⟨rfl, rfl⟩ | ⟨g, cap, cur, rfl, _, _, hnc, _⟩
    · simp [Builtin.append_, run_underlying Try.underlying30, sizeOf, typeInfo, hi0, Builtin.lenOf, Builtin.firstCells]
    · simp [Builtin.append_, run_underlying Try.underlying30, sizeOf, typeInfo, hi0, Builtin.lenOf, Builtin.firstCells, hnc, storeCells]
  | some ad =>
    obtain ⟨v', w', hrun, h2, h3, _⟩ := run_append_own (P := Try.prog) w B 30 30 33 i0 _ 4 32 Try.underlying30 hi0 hz0 hz1 hz2 rfl (by decide) v k xs hown ad n c (flatW bs) (by rw [flatW_length, hl])
      (fun j u hu => by
        have hj : j < n * 4 := by
          rcases Nat.lt_or_ge j (flatW bs).length with h | h
          · rw [flatW_length, hl] at h; exact h
          · rw [List.getElem?_eq_none h] at hu; cases hu
        have hq : j / 4 < bs.length := by omega
        have := (hA (by omega)).1
        cases this
        have e : (⟨b, off, none⟩ : Addr).add j = ⟨b, off + j, none⟩ := by unfold Addr.add; by_cases h : j = 0 <;> simp [h]
        have hg := flatW_get bs (j / 4) (j % 4) hq (by omega)
        rw [show 4 * (j / 4) + j % 4 = j from by omega, hu] at hg
        obtain ⟨c0, c1, c2, c3⟩ := hc (j / 4) hq
        rw [e]
        have h4 : j % 4 = 0 ∨ j % 4 = 1 ∨ j % 4 = 2 ∨ j % 4 = 3 := by omega
        rcases h4 with h4 | h4 | h4 | h4 <;> rw [h4] at hg <;> rw [hg]
        · rw [show off + j = off + j / 4 * 4 from by omega, c0]; rfl
        · rw [show off + j = off + j / 4 * 4 + 1 from by omega, c1]; rfl
        · rw [show off + j = off + j / 4 * 4 + 2 from by omega, c2]; rfl
        · rw [show off + j = off + j / 4 * 4 + 3 from by omega, c3]; rfl)
      (flatW_oneCell bs) (by unfold maxLen; omega) (by omega) hB
    exact ⟨v', w', hrun, h2, h3⟩

theorem wpList_append_waits {ops : Array Oper} {rest : List Oper} {o : Oper} {a : Act} {Q : Exit → Act → World → Prop} {w : World} (hgd : o.guard = none) (s x : Operand)
    (ho : o.op = .call { callee := .builtin .append, args := #[s, x], argTypes := #[30, 30] }) (hty : o.type = 30)
    (B : Nat) (v : Value) (k : Nat) (xs : List Value) (hs : a.eval s = v) (hown : w.ownsRow B 33 4 v k xs) (A : Option Addr) (n c : Nat) (bs : List Wt) (hl : bs.length = n) (hx : a.eval x = .slice A n c) (h : RdW w A bs) (hA0 : A = none → n = 0) (hB : B ≤ w.heap.size) (hk : k + n ≤ 1000000)
    (hc : ∀ v' w', w'.ownsRow B 33 4 v' (k + n) (xs ++ flatW bs) → w.grownBy w' v.ownBlock → wpList Try.prog ops Q rest (a.put o.dst v') w') : wpList Try.prog ops Q (o :: rest) a w := by
  refine wpList_plain hgd fun K hK => ?_
  obtain ⟨v', w', hrun, h2, h3⟩ := run_append_waits B v k xs w hown A n c bs hl h hA0 hB hk
  unfold Oper.wp execOp
  simp only [ho, hty, resolve, invoke, builtin, Sem.run_bind, Sem.run_pure, Result.andThen_ok, List.map_toArray, List.map_cons, List.map_nil, hs, hx, hrun]
  exact hK _ _ (hc v' w' h2 h3)
end Go.Proofs.Ytpbgdldaojpjkaa

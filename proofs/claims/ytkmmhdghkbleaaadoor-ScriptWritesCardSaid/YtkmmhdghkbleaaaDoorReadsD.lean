/-
  The walk of catchboltlaw19.ScriptReads: it answers true at whatever bytes. No conditions.
-/
import Derived.Test.YtkmmhdghkbleaaaDoorEntRowD
namespace Go.Proofs.YtkmmhdghkbleaaaDoor
open Go.ChangeShapes Go.WideShapes Go.ChangeAt Go.RowKit
set_option linter.unusedVariables false

/-- the slice value (A, its length) holds the entries es -/
def RdE (w : World) (A : Option Addr) (es : List Ent) : Prop :=
  ∃ g, (0 < es.length → A = some ⟨g, 0, none⟩ ∧ g < w.heap.size) ∧ ∀ i, i < es.length → Cells6 w g (6 * i) (es.getD i Ent.none)
theorem RdE.below {w w1 : World} {A : Option Addr} {es : List Ent} (h : RdE w A es) (hb : Below w.heap.size w w1) : RdE w1 A es := by
  obtain ⟨g, hA, hc⟩ := h
  exact ⟨g, fun hn => ⟨(hA hn).1, Nat.lt_of_lt_of_le (hA hn).2 hb.size⟩, fun i hi => (hc i hi).below hb (hA (by omega)).2⟩
theorem rde_of_own {w : World} {B : Nat} {T : TypeId} {v : Value} {es : List Ent} (h : w.ownsRow B T 6 v es.length (flat es)) : ∃ A cap, v = .slice A es.length cap ∧ es.length ≤ cap ∧ RdE w A es := by
  rcases own_ents h with ⟨rfl, rfl⟩ | ⟨g, cap, rfl, _, hg, hcap, hc⟩
  · exact ⟨none, 0, rfl, Nat.le_refl _, 0, fun h => by simp at h, fun i hi => by simp at hi⟩
  · exact ⟨_, cap, rfl, hcap, g, fun _ => ⟨rfl, hg⟩, hc⟩

theorem byte_info : (Tryd.prog.info? 5).map (fun i => (i.zero, i.size, i.bytes)) = some (some (.int .u8 0), 1, 1) := by kernel_rfl

theorem RdB.below {w w1 : World} {A : Option Addr} {n : Nat} {bs : List Int} (h : RdB w A n bs) (hb : Below w.heap.size w w1) : RdB w1 A n bs := by
  obtain ⟨hl, hw, b, off, hA, hc⟩ := h
  refine ⟨hl, hw, b, off, fun hn => ⟨(hA hn).1, Nat.lt_of_lt_of_le (hA hn).2 hb.size⟩, fun i hi => ?_⟩
  exact (hb.cell (p := ⟨b, _, none⟩) (hA (by omega)).2).trans (hc i hi)

def bytesV (bs : List Int) : List Value := bs.map (Value.int .u8)

theorem rdb_of_own {w : World} {B : Nat} {v : Value} {n : Nat} {bs : List Int} (h : w.ownsRow B 5 1 v n (bytesV bs)) (hw : ∀ i, 0 ≤ bs.getD i 0 ∧ bs.getD i 0 ≤ 255) :
    ∃ A cap, v = .slice A n cap ∧ n ≤ cap ∧ RdB w A n bs := by
  have hl : bs.length = n := by have := h.1; simp [bytesV] at this; exact this
  rcases h.2 with ⟨rfl, h0⟩ | ⟨g, cap, cur, rfl, hg, hh, hc, _⟩
  · exact ⟨none, 0, by rw [h0], by omega, hl, hw, 0, 0, fun hn => by omega, fun i hi => by omega⟩
  · refine ⟨_, cap, rfl, hc, hl, hw, g, 0, fun _ => ⟨rfl, (Array.getElem?_eq_some_iff.1 hh).1⟩, fun i hi => ?_⟩
    have := h.cells (g := g) rfl i (.int .u8 (bs.getD i 0)) (by
      unfold bytesV
      rw [List.getElem?_map, List.getD_eq_getElem?_getD, List.getElem?_eq_getElem (by omega)]; rfl)
    rw [add0] at this
    rw [Nat.zero_add]; exact this

theorem run_append_bytes (B : Nat) (v : Value) (k : Nat) (xs : List Value) (w : World) (hown : w.ownsRow B 5 1 v k xs) (A : Option Addr) (n c : Nat) (bs : List Int) (h : RdB w A n bs) (hB : B ≤ w.heap.size) (hk : k + n ≤ 1000000) :
    ∃ v' w', (Builtin.append_ #[25, 25] 25 #[v, .slice A n c]).run Tryd.prog w = .ok v' w' ∧ w'.ownsRow B 5 1 v' (k + n) (xs ++ bytesV bs) ∧ w.grownBy w' v.ownBlock := by
  obtain ⟨i0, hi0, hz0, hz1, hz2⟩ := info_parts byte_info
  obtain ⟨hl, hw, b, off, hA, hc⟩ := h
  cases A with
  | none =>
    have hn : n = 0 := by
      rcases Nat.eq_zero_or_pos n with h | h
      · exact h
      · cases (hA h).1
    subst hn
    have hb : bs = [] := List.eq_nil_of_length_eq_zero hl
    subst hb
    refine ⟨v, w, ?_, by simpa [bytesV] using hown, World.grownBy.refl w _⟩
    rcases hown.2 with ⟨rfl, rfl⟩ | ⟨g, cap, cur, rfl, _, _, hnc, _⟩
    · simp [Builtin.append_, run_underlying Tryd.underlying25, sizeOf, typeInfo, hi0, Builtin.lenOf, Builtin.firstCells]
    · simp [Builtin.append_, run_underlying Tryd.underlying25, sizeOf, typeInfo, hi0, Builtin.lenOf, Builtin.firstCells, hnc, storeCells]
  | some ad =>
    obtain ⟨v', w', hrun, h2, h3, _⟩ := run_append_own (P := Tryd.prog) w B 25 25 5 i0 _ 1 1 Tryd.underlying25 hi0 hz0 hz1 hz2 rfl (by decide) v k xs hown ad n c (bytesV bs) (by simp [bytesV, hl])
      (fun j u hu => by
        unfold bytesV at hu
        rw [List.getElem?_map] at hu
        have hj : j < bs.length := by
          rcases Nat.lt_or_ge j bs.length with h | h
          · exact h
          · rw [List.getElem?_eq_none h] at hu; cases hu
        rw [List.getElem?_eq_getElem hj] at hu
        have := (hA (by omega)).1
        cases this
        have e : (⟨b, off, none⟩ : Addr).add j = ⟨b, off + j, none⟩ := by unfold Addr.add; by_cases h : j = 0 <;> simp [h]
        rw [e, hc j (by omega), List.getD_eq_getElem?_getD, List.getElem?_eq_getElem hj]; exact hu)
      (by simp [bytesV, Value.oneCell']) (by unfold maxLen; omega) (by omega) hB
    exact ⟨v', w', hrun, h2, h3⟩

/-- the empty slice that 'make' or a literal has just laid -/
theorem own_empty (w : World) (e : TypeId) (s : Nat) : (w.alloc (.cells #[] e)).ownsRow w.heap.size e s (.slice (some ⟨w.heap.size, 0, none⟩) 0 0) 0 [] :=
  ⟨by simp, .inr ⟨w.heap.size, 0, #[], rfl, Nat.le_refl _, heap_alloc_new w _, Nat.le_refl _, by unfold maxLen; omega, by simp, by simp⟩⟩

theorem wpList_append_bytes {ops : Array Oper} {rest : List Oper} {o : Oper} {a : Act} {Q : Exit → Act → World → Prop} {w : World} (hgd : o.guard = none) (s x : Operand)
    (ho : o.op = .call { callee := .builtin .append, args := #[s, x], argTypes := #[25, 25] }) (hty : o.type = 25)
    (B : Nat) (v : Value) (k : Nat) (xs : List Value) (hs : a.eval s = v) (hown : w.ownsRow B 5 1 v k xs) (A : Option Addr) (n c : Nat) (bs : List Int) (hx : a.eval x = .slice A n c) (h : RdB w A n bs) (hB : B ≤ w.heap.size) (hk : k + n ≤ 1000000)
    (hc : ∀ v' w', w'.ownsRow B 5 1 v' (k + n) (xs ++ bytesV bs) → w.grownBy w' v.ownBlock → wpList Tryd.prog ops Q rest (a.put o.dst v') w') : wpList Tryd.prog ops Q (o :: rest) a w := by
  refine wpList_plain hgd fun K hK => ?_
  obtain ⟨v', w', hrun, h2, h3⟩ := run_append_bytes B v k xs w hown A n c bs h hB hk
  unfold Oper.wp execOp
  simp only [ho, hty, resolve, invoke, builtin, Sem.run_bind, Sem.run_pure, Result.andThen_ok, List.map_toArray, List.map_cons, List.map_nil, hs, hx, hrun]
  exact hK _ _ (hc v' w' h2 h3)

end Go.Proofs.YtkmmhdghkbleaaaDoor

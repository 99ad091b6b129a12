/-
  Rows of numbers of one kind, as they lie in memory; append onto a row of the call's own. No conditions.
-/
import Derived.Test.YtonphamahnagfaaDoorRows
import Derived.WalkKit
import Derived.ProofKit
import Derived.OpenShut
import Derived.Handy
import Derived.Below
import Derived.Laws.AppendOwn
import Derived.Laws.OwnMore
import Derived.Lib.Hide
import Derived.OneCell
namespace Go.Proofs.YtonphamahnagfaaDoor
open Go.ChangeShapes Go.WideShapes Go.ChangeAt Go.RowKit
set_option linter.unusedVariables false

theorem retb {a b : Bool} (h : a = b) : Ending.returned (.bool a) = .returned (.bool b) := by rw [h]
theorem reti {a b : Int} (h : a = b) : Ending.returned (.int .i64 a) = .returned (.int .i64 b) := by rw [h]
theorem belowK {W w' : World} (hb : Below W.heap.size W w') {K : Nat} (hK : W.heap.size = K) : (∀ b o, b < K → w'.cell? ⟨b, o, none⟩ = W.cell? ⟨b, o, none⟩) ∧ (∀ b o, b < K → w'.frozen? ⟨b, o, none⟩ = W.frozen? ⟨b, o, none⟩) ∧ K ≤ w'.heap.size := by
  subst hK
  exact ⟨fun b o h => hb.cell (p := ⟨b, o, none⟩) h, fun b o h => hb.frozen (p := ⟨b, o, none⟩) h, hb.size⟩
theorem lt_of_cell {w : World} {b o : Nat} {v : Value} (h : w.cell? ⟨b, o, none⟩ = some v) : b < w.heap.size := by
  rcases Nat.lt_or_ge b w.heap.size with h' | h'
  · exact h'
  · simp [World.cell?, Array.getElem?_eq_none h'] at h
theorem add0 (g n : Nat) : (⟨g, 0, none⟩ : Addr).add n = ⟨g, n, none⟩ := by
  unfold Addr.add; by_cases h : n = 0 <;> simp [h]
theorem addn (g o n : Nat) : (⟨g, o, none⟩ : Addr).add n = ⟨g, o + n, none⟩ := by
  unfold Addr.add; by_cases h : n = 0 <;> simp [h]
theorem own_below {w w' : World} {B : Nat} {e : TypeId} {s n : Nat} {v : Value} {xs : List Value} (h : w.ownsRow B e s v n xs) (hb : Below w.heap.size w w') : w'.ownsRow B e s v n xs := by
  rcases h.2 with ⟨rfl, h0⟩ | ⟨g, cap, cur, rfl, hg, hh, hc⟩
  · exact ⟨h.1, .inl ⟨rfl, h0⟩⟩
  · exact ⟨h.1, .inr ⟨g, cap, cur, rfl, hg, (hb.block g (Array.getElem?_eq_some_iff.1 hh).1).trans hh, hc⟩⟩
theorem own_weaken {w : World} {B B' : Nat} {e : TypeId} {s n : Nat} {v : Value} {xs : List Value} (h : w.ownsRow B e s v n xs) (hB : B' ≤ B) : w.ownsRow B' e s v n xs := by
  rcases h.2 with ⟨rfl, h0⟩ | ⟨g, cap, cur, rfl, hg, hh, hc⟩
  · exact ⟨h.1, .inl ⟨rfl, h0⟩⟩
  · exact ⟨h.1, .inr ⟨g, cap, cur, rfl, by omega, hh, hc⟩⟩
theorem info_parts {i0 : Option TypeInfo} {z : Option Value} {s b : Nat} (h : i0.map (fun i => (i.zero, i.size, i.bytes)) = some (z, s, b)) : ∃ i, i0 = some i ∧ i.zero = z ∧ i.size = s ∧ i.bytes = b := by
  obtain ⟨i, hi, he⟩ := Option.map_eq_some_iff.1 h
  simp only [Prod.mk.injEq] at he
  exact ⟨i, hi, he.1, he.2.1, he.2.2⟩
/-- the empty slice that 'make' or a literal has just laid -/
theorem own_empty (w : World) (e : TypeId) (s : Nat) : (w.alloc (.cells #[] e)).ownsRow w.heap.size e s (.slice (some ⟨w.heap.size, 0, none⟩) 0 0) 0 [] :=
  ⟨by simp, .inr ⟨w.heap.size, 0, #[], rfl, Nat.le_refl _, heap_alloc_new w _, Nat.le_refl _, by unfold maxLen; omega, by simp, by simp⟩⟩

theorem gb_trans {a b c : World} {r : Option Nat} (h : a.grownBy b r) (k : b.grownBy c r) : a.grownBy c r :=
  ⟨k.os.trans h.os, k.tape.trans h.tape, k.output.trans h.output, Nat.le_trans h.size k.size, fun i hi hr => (k.block i (Nat.lt_of_lt_of_le hi h.size) hr).trans (h.block i hi hr)⟩
theorem gb_set {a b : World} {g : Nat} (h : a.grownBy b (some g)) (o : Nat) (u : Value) : a.grownBy (b.setCell ⟨g, o, none⟩ u) (some g) :=
  gb_trans h ⟨rfl, rfl, rfl, by simp [World.setCell], fun i hi hr => Below.heap_setCell _ _ _ _ (fun e => hr (by rw [e]))⟩
theorem gb_alloc {a b : World} {r : Option Nat} (h : a.grownBy b r) (o : Obj) : a.grownBy (b.alloc o) r :=
  gb_trans h (World.grownBy_alloc _ _ _)
theorem gb_drew {a b : World} {r : Option Nat} (h : a.grownBy b r) : a.grownBy b.drew r := ⟨h.os, h.tape, h.output, h.size, h.block⟩
theorem gb_below {a b : World} {r : Option Nat} (h : Below a.heap.size a b) : a.grownBy b r := ⟨h.os, h.tape, h.output, h.size, fun k hk _ => h.block k hk⟩

/-- the numbers zs lie there -/
def RdN (k : IntKind) (w : World) (A : Option Addr) (zs : List Int) : Prop :=
  ∃ g off, (0 < zs.length → A = some ⟨g, off, none⟩ ∧ g < w.heap.size) ∧ ∀ i, i < zs.length → w.cell? ⟨g, off + i, none⟩ = some (.int k (zs.getD i 0))
def numV (k : IntKind) (zs : List Int) : List Value := zs.map (Value.int k)

theorem RdN.below {k : IntKind} {w w1 : World} {A : Option Addr} {zs : List Int} (h : RdN k w A zs) (hb : Below w.heap.size w w1) : RdN k w1 A zs := by
  obtain ⟨b, off, hA, hc⟩ := h
  exact ⟨b, off, fun hn => ⟨(hA hn).1, Nat.lt_of_lt_of_le (hA hn).2 hb.size⟩, fun i hi => (hb.cell (p := ⟨b, _, none⟩) (hA (by omega)).2).trans (hc i hi)⟩
theorem rdn_nil (k : IntKind) (w : World) (A : Option Addr) : RdN k w A [] := ⟨0, 0, fun h => by simp at h, fun i h => by simp at h⟩
theorem numV_length (k : IntKind) (zs : List Int) : (numV k zs).length = zs.length := by simp [numV]
theorem numV_append (k : IntKind) (a b : List Int) : numV k (a ++ b) = numV k a ++ numV k b := by simp [numV]
theorem numV_get {k : IntKind} {zs : List Int} {i : Nat} (h : i < zs.length) : (numV k zs)[i]? = some (.int k (zs.getD i 0)) := by
  unfold numV
  rw [List.getElem?_map, List.getD_eq_getElem?_getD, List.getElem?_eq_getElem h]; rfl
theorem rdn_of_own {k : IntKind} {w : World} {B n : Nat} {T : TypeId} {v : Value} {zs : List Int} (h : w.ownsRow B T 1 v n (numV k zs)) :
    zs.length = n ∧ ∃ A cap, v = .slice A n cap ∧ n ≤ cap ∧ cap ≤ maxLen ∧ RdN k w A zs ∧ ∀ g o, A = some ⟨g, o, none⟩ → B ≤ g ∧ g < w.heap.size := by
  have hl : zs.length = n := by have := h.1; rw [numV_length] at this; omega
  rcases h.2 with ⟨rfl, h0⟩ | ⟨g, cap, cur, rfl, hg, hh, hc, hm, _⟩
  · exact ⟨hl, none, 0, by rw [h0], by omega, by unfold maxLen; omega, ⟨0, 0, fun hn => by omega, fun i hi => by omega⟩, fun g o h => by cases h⟩
  · have hlt := (Array.getElem?_eq_some_iff.1 hh).1
    refine ⟨hl, _, cap, rfl, hc, hm, ⟨g, 0, fun _ => ⟨rfl, hlt⟩, fun i hi => ?_⟩, fun g' o h => by cases h; exact ⟨hg, hlt⟩⟩
    have := h.cells (g := g) rfl i _ (numV_get hi)
    rw [add0] at this
    rw [Nat.zero_add]; exact this
theorem rdn_take {k : IntKind} {w : World} {A : Option Addr} {zs : List Int} (h : RdN k w A zs) (m : Nat) : RdN k w A (zs.take m) := by
  obtain ⟨g, off, hA, hc⟩ := h
  refine ⟨g, off, fun hn => hA (by simp at hn; omega), fun i hi => ?_⟩
  simp at hi
  rw [hc i (by omega), List.getD_eq_getElem?_getD, List.getD_eq_getElem?_getD, List.getElem?_take_of_lt (by omega)]

section
variable {P : Program}
theorem run_append_nums {T E : TypeId} {k : IntKind} {sz : Nat} (hT : P.underlying T = some (.slice E)) (hI : (P.info? E).map (fun i => (i.zero, i.size, i.bytes)) = some (some (.int k 0), 1, sz)) (hsz : 0 < sz)
    (B : Nat) (v : Value) (m : Nat) (xs : List Value) (w : World) (hown : w.ownsRow B E 1 v m xs) (A : Option Addr) (n c : Nat) (zs : List Int) (hl : zs.length = n) (h : RdN k w A zs) (hB : B ≤ w.heap.size) (hk : (m + n) * sz ≤ 140737488355328) :
    ∃ v' w', (Builtin.append_ #[T, T] T #[v, .slice A n c]).run P w = .ok v' w' ∧ w'.ownsRow B E 1 v' (m + n) (xs ++ numV k zs) ∧ w.grownBy w' v.ownBlock := by
  obtain ⟨i0, hi0, hz0, hz1, hz2⟩ := info_parts hI
  obtain ⟨b, off, hA, hc⟩ := h
  have hmn : m + n ≤ 140737488355328 := Nat.le_trans (Nat.le_mul_of_pos_right _ hsz) hk
  cases A with
  | none =>
    have hn : n = 0 := by
      rcases Nat.eq_zero_or_pos n with h | h
      · exact h
      · cases (hA (by omega)).1
    subst hn
    have hb : zs = [] := List.eq_nil_of_length_eq_zero hl
    subst hb
    refine ⟨v, w, ?_, by simpa [numV] using hown, World.grownBy.refl w _⟩
    rcases hown.2 with ⟨rfl, rfl⟩ | ⟨g, cap, cur, rfl, _, _, hnc, _⟩
    · simp [Builtin.append_, run_underlying hT, sizeOf, typeInfo, hi0, Builtin.lenOf, Builtin.firstCells]
    · simp [Builtin.append_, run_underlying hT, sizeOf, typeInfo, hi0, Builtin.lenOf, Builtin.firstCells, hnc, storeCells]
  | some ad =>
    obtain ⟨v', w', hrun, h2, h3, _⟩ := run_append_own (P := P) w B T T E i0 _ 1 sz hT hi0 hz0 hz1 hz2 rfl (by decide) v m xs hown ad n c (numV k zs) (by rw [numV_length, hl, Nat.mul_one])
      (fun j u hu => by
        have hj : j < zs.length := by
          rcases Nat.lt_or_ge j zs.length with h | h
          · exact h
          · rw [List.getElem?_eq_none (by rw [numV_length]; exact h)] at hu; cases hu
        rw [numV_get hj] at hu
        have := (hA (by omega)).1
        cases this
        rw [addn, hc j hj]; exact hu)
      (by simp [numV, Value.oneCell']) (by unfold maxLen; omega) hk hB
    exact ⟨v', w', hrun, h2, h3⟩

theorem wpList_append_nums {T E : TypeId} {k : IntKind} {sz : Nat} {ops : Array Oper} {rest : List Oper} {o : Oper} {a : Act} {Q : Exit → Act → World → Prop} {w : World} (hgd : o.guard = none) (s x : Operand)
    (ho : o.op = .call { callee := .builtin .append, args := #[s, x], argTypes := #[T, T] }) (hty : o.type = T)
    (hT : P.underlying T = some (.slice E)) (hI : (P.info? E).map (fun i => (i.zero, i.size, i.bytes)) = some (some (.int k 0), 1, sz)) (hsz : 0 < sz)
    (B : Nat) (v : Value) (m : Nat) (xs : List Value) (hs : a.eval s = v) (hown : w.ownsRow B E 1 v m xs) (A : Option Addr) (n c : Nat) (zs : List Int) (hx : a.eval x = .slice A n c) (hl : zs.length = n) (h : RdN k w A zs) (hB : B ≤ w.heap.size) (hk : (m + n) * sz ≤ 140737488355328)
    (hc : ∀ v' w', w'.ownsRow B E 1 v' (m + n) (xs ++ numV k zs) → w.grownBy w' v.ownBlock → wpList P ops Q rest (a.put o.dst v') w') : wpList P ops Q (o :: rest) a w := by
  refine wpList_plain hgd fun K hK => ?_
  obtain ⟨v', w', hrun, h2, h3⟩ := run_append_nums hT hI hsz B v m xs w hown A n c zs hl h hB hk
  unfold Oper.wp execOp
  simp only [ho, hty, resolve, invoke, builtin, Sem.run_bind, Sem.run_pure, Result.andThen_ok, List.map_toArray, List.map_cons, List.map_nil, hs, hx, hrun]
  exact hK _ _ (hc v' w' h2 h3)
end

section
variable {P : Program}
theorem step_append_nums {T E : TypeId} {k : IntKind} {sz : Nat} {ops : Array Oper} {o : Oper} {a : Act} {w : World} {K : Act → World → Prop} {Q : Exit → Act → World → Prop} {E' : Prop}
    (hgd : o.guard = none) (hty : o.type = T) (s x : Operand) (hop : o.op = Op.call { callee := Callee.builtin Builtin.append, args := #[s, x], argTypes := #[T, T] })
    (hT : P.underlying T = some (.slice E)) (hI : (P.info? E).map (fun i => (i.zero, i.size, i.bytes)) = some (some (.int k 0), 1, sz)) (hsz : 0 < sz)
    (B : Nat) (v : Value) (m : Nat) (xs : List Value) (hs : a.eval s = v) (hown : w.ownsRow B E 1 v m xs) (A : Option Addr) (n c : Nat) (zs : List Int) (hl : zs.length = n) (hx : a.eval x = .slice A n c) (h : RdN k w A zs) (hB : B ≤ w.heap.size) (hk : (m + n) * sz ≤ 140737488355328)
    (hK : ∀ v' w', w'.ownsRow B E 1 v' (m + n) (xs ++ numV k zs) → w.grownBy w' v.ownBlock → K (a.put o.dst v') w') :
    if Region.wanted o (yielded ops a.tmps) = true then Oper.wp P o a w K Q else E' := by
  have hw : Region.wanted o (yielded ops a.tmps) = true := by simp [Region.wanted, hgd]
  rw [if_pos hw]
  obtain ⟨v', w', hrun, h2, h3⟩ := run_append_nums hT hI hsz B v m xs w hown A n c zs hl h hB hk
  unfold Oper.wp execOp
  simp only [hop, hty, resolve, invoke, builtin, Sem.run_bind, Sem.run_pure, Result.andThen_ok, List.map_toArray, List.map_cons, List.map_nil, hs, hx, hrun]
  exact hK _ _ h2 h3
end
theorem heap_drew (w : World) (k : Nat) : w.drew.heap[k]? = w.heap[k]? := rfl
theorem heap_push (w : World) (o : Obj) (k : Nat) : (w.alloc o).heap[k]? = if k = w.heap.size then some o else w.heap[k]? := by
  show (w.heap.push o)[k]? = _
  rw [Array.getElem?_push]
theorem cell_keep {w2 W : World} {u : Value} {b o : Nat} (hb : Below w2.heap.size w2 W) (hc : w2.cell? ⟨b, o, none⟩ = some u) : W.cell? ⟨b, o, none⟩ = some u :=
  (hb.cell (p := ⟨b, o, none⟩) (lt_of_cell hc)).trans hc
theorem append_cell {w2 W w7 : World} {v u : Value} {b o : Nat} (hg : W.grownBy w7 v.ownBlock) (hb : Below w2.heap.size w2 W) (hc : w2.cell? ⟨b, o, none⟩ = some u) (hne : v.ownBlock ≠ some b) : w7.cell? ⟨b, o, none⟩ = some u :=
  hg.cell (cell_keep hb hc) (fun e => hne e.symm)
theorem own_blk {w : World} {B b : Nat} {T : TypeId} {s : Nat} (hB : B ≤ b) (h : w.heap[b]? = some (.cells #[] T (0, 0))) : w.ownsRow B T s (.slice (some ⟨b, 0, none⟩) 0 0) 0 [] :=
  ⟨by simp, .inr ⟨b, 0, #[], rfl, hB, h, Nat.le_refl _, by unfold maxLen; omega, by simp, by simp⟩⟩
theorem rdn_blk {k : IntKind} {w : World} {b : Nat} {z : Int} {T : TypeId} (h : w.heap[b]? = some (.cells #[.int k z] T (0, 0))) : RdN k w (some ⟨b, 0, none⟩) [z] :=
  ⟨b, 0, fun _ => ⟨rfl, (Array.getElem?_eq_some_iff.1 h).1⟩, fun i hi => by
    obtain rfl : i = 0 := by simpa using hi
    simp [World.cell?, h]⟩

/-- a block of numbers -/
theorem rdn_cells {k : IntKind} {w : World} {b : Nat} {cs : Array Value} {T : TypeId} (zs : List Int) (h : w.heap[b]? = some (.cells cs T (0, 0))) (hcs : cs = (numV k zs).toArray) : RdN k w (some ⟨b, 0, none⟩) zs := by
  subst hcs
  refine ⟨b, 0, fun _ => ⟨rfl, (Array.getElem?_eq_some_iff.1 h).1⟩, fun i hi => ?_⟩
  have := numV_get (k := k) hi
  simp only [World.cell?, h, Nat.zero_add, List.getElem?_toArray]
  simpa using this
theorem RdN.kept {k : IntKind} {w w1 : World} {A : Option Addr} {zs : List Int} {r : Option Nat} (h : RdN k w A zs) (hg : w.grownBy w1 r) (hr : ∀ g o, A = some ⟨g, o, none⟩ → some g ≠ r) : RdN k w1 A zs := by
  obtain ⟨b, off, hA, hc⟩ := h
  refine ⟨b, off, fun hn => ⟨(hA hn).1, Nat.lt_of_lt_of_le (hA hn).2 hg.size⟩, fun i hi => ?_⟩
  have h1 := hA (by omega)
  exact hg.cell (hc i hi) (hr _ _ h1.1)

/-- a new block of one number -/
theorem rdn_one (k : IntKind) (w : World) (z : Int) (T : TypeId) : RdN k (w.alloc (.cells #[.int k z] T)) (some ⟨w.heap.size, 0, none⟩) [z] :=
  ⟨w.heap.size, 0, fun _ => ⟨rfl, by simp⟩, fun i hi => by
    have : i = 0 := by simp at hi; exact hi
    subst this; simp⟩

end Go.Proofs.YtonphamahnagfaaDoor

/-
  Rows of events: read out of a block, appended. No conditions.
-/
import Derived.Test.YtggkohkngockoaaDoorPPlay
namespace Go.Proofs.YtggkohkngockoaaDoor
open Go.ChangeShapes Go.WideShapes Go.ChangeAt Go.RowKit Go.Maps
set_option linter.unusedVariables false

theorem ev_info : (Tryd.prog.info? 43).map (fun i => (i.zero, i.size, i.bytes)) = some (some (.agg #[.int .i64 0, .int .i64 0, .int .i64 0, .int .i64 0, .int .i64 0, .int .i64 0, .int .i64 0]), 7, 56) := by kernel_rfl
theorem evV_length (l : List Ev) : (evV l).length = 7 * l.length := by
  induction l with
  | nil => rfl
  | cons e r ih => rw [show evV (e :: r) = e.cells ++ evV r from rfl, List.length_append, ih, show e.cells.length = 7 from rfl, List.length_cons]; omega
theorem evV_append (a b : List Ev) : evV (a ++ b) = evV a ++ evV b := by simp [evV]
theorem evV_get (es : List Ev) (i j : Nat) (hi : i < es.length) (hj : j < 7) : (evV es)[7 * i + j]? = (es.getD i Ev.none).cells[j]? := by
  induction es generalizing i with
  | nil => simp at hi
  | cons e r ih =>
    rw [show evV (e :: r) = e.cells ++ evV r from rfl]
    have hl : e.cells.length = 7 := rfl
    cases i with
    | zero => rw [List.getElem?_append_left (by omega)]; simp
    | succ i =>
      rw [List.getElem?_append_right (by omega), hl, show 7 * (i + 1) + j - 7 = 7 * i + j from by omega, ih i (by simpa using hi)]
      simp
theorem ev_one (e : Ev) : ∀ u ∈ e.cells, u.oneCell' = true := by
  intro u hu
  simp [Ev.cells] at hu
  rcases hu with rfl | rfl | rfl | rfl | rfl | rfl | rfl <;> rfl
theorem cells7_of {w : World} {g o : Nat} {e : Ev} (h : ∀ j u, j < 7 → e.cells[j]? = some u → w.cell? ⟨g, o + j, none⟩ = some u) : Cells7 w g o e :=
  ⟨h 0 _ (by omega) rfl, h 1 _ (by omega) rfl, h 2 _ (by omega) rfl, h 3 _ (by omega) rfl, h 4 _ (by omega) rfl, h 5 _ (by omega) rfl, h 6 _ (by omega) rfl⟩
theorem rde_of_own {w : World} {B : Nat} {T : TypeId} {v : Value} {n : Nat} {es : List Ev} (h : w.ownsRow B T 7 v n (evV es)) : es.length = n ∧ ∃ A cap, v = .slice A n cap ∧ n ≤ cap ∧ RdE w A es := by
  have hl : es.length = n := by have := h.1; rw [evV_length] at this; omega
  refine ⟨hl, ?_⟩
  rcases h.2 with ⟨rfl, h0⟩ | ⟨g, cap, cur, rfl, hg, hh, hc, _⟩
  · subst h0
    have : es = [] := List.eq_nil_of_length_eq_zero hl
    subst this
    exact ⟨none, 0, rfl, Nat.le_refl _, 0, 0, fun h => by simp at h, fun i h => by simp at h⟩
  · refine ⟨_, cap, rfl, hc, g, 0, fun _ => ⟨rfl, (Array.getElem?_eq_some_iff.1 hh).1⟩, fun i hi => cells7_of fun j u hj hu => ?_⟩
    have := h.cells (g := g) rfl (7 * i + j) u ((evV_get es i j hi hj).trans hu)
    rw [add0] at this
    rwa [show 0 + i * 7 + j = 7 * i + j by omega]
theorem rde_of_block {w : World} {g : Nat} {cs : Array Value} {T : TypeId} {fr : Nat × Nat} {es : List Ev} (h : w.heap[g]? = some (.cells cs T fr)) (hc : cs.toList = evV es) : RdE w (some ⟨g, 0, none⟩) es := by
  refine ⟨g, 0, fun _ => ⟨rfl, (Array.getElem?_eq_some_iff.1 h).1⟩, fun i hi => cells7_of fun j u hj hu => ?_⟩
  have hg := (evV_get es i j hi hj).trans hu
  rw [← hc] at hg
  have := World.news_of_block h (7 * i + j) u hg
  rw [add0] at this
  rwa [show 0 + i * 7 + j = 7 * i + j by omega]
theorem own_empty_ev (w : World) (B : Nat) (hB : B ≤ w.heap.size) (T : TypeId) : (w.alloc (.cells #[] T)).ownsRow B T 7 (.slice (some ⟨w.heap.size, 0, none⟩) 0 0) 0 (evV []) :=
  ⟨rfl, .inr ⟨w.heap.size, 0, #[], rfl, hB, by rw [heap_push, if_pos rfl], Nat.le_refl _, Nat.zero_le _, rfl, rfl⟩⟩

theorem run_append_evs (B : Nat) (v : Value) (k : Nat) (xs : List Ev) (w : World) (hown : w.ownsRow B 43 7 v k (evV xs)) (A : Option Addr) (n c : Nat) (bs : List Ev) (hl : bs.length = n) (h : RdE w A bs) (hB : B ≤ w.heap.size) (hk : k + n ≤ 1000000) :
    ∃ v' w', (Builtin.append_ #[22, 22] 22 #[v, .slice A n c]).run Tryd.prog w = .ok v' w' ∧ w'.ownsRow B 43 7 v' (k + n) (evV (xs ++ bs)) ∧ w.grownBy w' v.ownBlock ∧ (v'.ownBlock = v.ownBlock ∨ v'.ownBlock = some w.heap.size) := by
  obtain ⟨i0, hi0, hz0, hz1, hz2⟩ := info_parts ev_info
  rw [evV_append]
  cases A with
  | none =>
    obtain ⟨b, off, hA, hc⟩ := h
    have hn : n = 0 := by
      rcases Nat.eq_zero_or_pos n with h | h
      · exact h
      · cases (hA (by omega)).1
    subst hn
    have hb : bs = [] := List.eq_nil_of_length_eq_zero hl
    subst hb
    refine ⟨v, w, ?_, by simpa [evV] using hown, World.grownBy.refl w _, .inl rfl⟩
    rcases hown.2 with ⟨rfl, rfl⟩ | ⟨g, cap, cur, rfl, _, _, hnc, _⟩
    · simp [Builtin.append_, run_underlying Tryd.underlying22, sizeOf, typeInfo, hi0, Builtin.lenOf, Builtin.firstCells]
    · simp [Builtin.append_, run_underlying Tryd.underlying22, sizeOf, typeInfo, hi0, Builtin.lenOf, Builtin.firstCells, hnc, storeCells]
  | some ad =>
    obtain ⟨b, off, hA, hc⟩ := h
    obtain ⟨v', w', hrun, h2, h3, _, h5⟩ := run_append_own_at (P := Tryd.prog) w B 22 22 43 i0 _ 7 56 Tryd.underlying22 hi0 hz0 hz1 hz2 rfl (by decide) v k (evV xs) hown ad n c (evV bs) (by rw [evV_length, hl, Nat.mul_comm])
      (fun j u hu => by
        have hj : j < 7 * n := by
          rcases Nat.lt_or_ge j (evV bs).length with h | h
          · rw [evV_length, hl] at h; exact h
          · rw [List.getElem?_eq_none h] at hu; cases hu
        have hq : j / 7 < bs.length := by omega
        have := (hA (by omega)).1
        cases this
        have e : (⟨b, off, none⟩ : Addr).add j = ⟨b, off + j, none⟩ := by unfold Addr.add; by_cases h : j = 0 <;> simp [h]
        have hg := evV_get bs (j / 7) (j % 7) hq (by omega)
        rw [show 7 * (j / 7) + j % 7 = j from by omega, hu] at hg
        obtain ⟨c0, c1, c2, c3, c4, c5, c6⟩ := hc (j / 7) hq
        rw [e]
        have h4 : j % 7 = 0 ∨ j % 7 = 1 ∨ j % 7 = 2 ∨ j % 7 = 3 ∨ j % 7 = 4 ∨ j % 7 = 5 ∨ j % 7 = 6 := by omega
        rcases h4 with h4 | h4 | h4 | h4 | h4 | h4 | h4 <;> rw [h4] at hg <;> rw [hg]
        · rw [show off + j = off + j / 7 * 7 from by omega, c0]; rfl
        · rw [show off + j = off + j / 7 * 7 + 1 from by omega, c1]; rfl
        · rw [show off + j = off + j / 7 * 7 + 2 from by omega, c2]; rfl
        · rw [show off + j = off + j / 7 * 7 + 3 from by omega, c3]; rfl
        · rw [show off + j = off + j / 7 * 7 + 4 from by omega, c4]; rfl
        · rw [show off + j = off + j / 7 * 7 + 5 from by omega, c5]; rfl
        · rw [show off + j = off + j / 7 * 7 + 6 from by omega, c6]; rfl)
      (by intro u hu; obtain ⟨x, _, hx⟩ := List.mem_flatMap.1 hu; exact ev_one x u hx) (by unfold maxLen; omega) (by omega) hB
    exact ⟨v', w', hrun, h2, h3, h5⟩
theorem wpList_append_evs {ops : Array Oper} {rest : List Oper} {o : Oper} {a : Act} {Q : Exit → Act → World → Prop} {w : World} (hgd : o.guard = none) (s x : Operand)
    (ho : o.op = .call { callee := .builtin .append, args := #[s, x], argTypes := #[22, 22] }) (hty : o.type = 22)
    (B : Nat) (v : Value) (k : Nat) (xs : List Ev) (hs : a.eval s = v) (hown : w.ownsRow B 43 7 v k (evV xs)) (A : Option Addr) (n c : Nat) (bs : List Ev) (hx : a.eval x = .slice A n c) (hl : bs.length = n) (h : RdE w A bs) (hB : B ≤ w.heap.size) (hk : k + n ≤ 1000000)
    (hc : ∀ v' w', w'.ownsRow B 43 7 v' (k + n) (evV (xs ++ bs)) → w.grownBy w' v.ownBlock → wpList Tryd.prog ops Q rest (a.put o.dst v') w') : wpList Tryd.prog ops Q (o :: rest) a w := by
  refine wpList_plain hgd fun K hK => ?_
  obtain ⟨v', w', hrun, h2, h3, _⟩ := run_append_evs B v k xs w hown A n c bs hl h hB hk
  unfold Oper.wp execOp
  simp only [ho, hty, resolve, invoke, builtin, Sem.run_bind, Sem.run_pure, Result.andThen_ok, List.map_toArray, List.map_cons, List.map_nil, hs, hx, hrun]
  exact hK _ _ (hc v' w' h2 h3)
end Go.Proofs.YtggkohkngockoaaDoor

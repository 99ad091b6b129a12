/-
  The model of chapter 20 in memory: events, locks, transactions. No conditions.
-/
import Derived.Test.YtggkohkngockoaaDoorPlayF
import Derived.Test.YtggkohkngockoaaDoorErr
import Derived.Test.YtggkohkngockoaaDoorModeRef
import Derived.Test.YtggkohkngockoaaDoorRegN
import Derived.Test.YtggkohkngockoaaDoorNum
import Derived.Maps.OwnOps
import Derived.Maps.Views
import Derived.DeepKeys4
import Derived.Deep.AppendLies
import Derived.Laws.Rows
namespace Go.Proofs.YtggkohkngockoaaDoor
open Go.ChangeShapes Go.WideShapes Go.ChangeAt Go.RowKit Go.Maps
set_option linter.unusedVariables false

/-! events -/
def Ev.none : Ev := ⟨0, 0, 0, 0, 0, 0, 0⟩
def Ev.cells (e : Ev) : List Value := [.int .i64 e.kind, .int .i64 e.client, .int .i64 e.tx, .int .i64 e.table, .int .i64 e.row, .int .i64 e.mode, .int .i64 e.code]
def Cells7 (w : World) (g o : Nat) (E : Ev) : Prop :=
  w.cell? ⟨g, o, Option.none⟩ = some (.int .i64 E.kind) ∧ w.cell? ⟨g, o + 1, Option.none⟩ = some (.int .i64 E.client) ∧ w.cell? ⟨g, o + 2, Option.none⟩ = some (.int .i64 E.tx) ∧ w.cell? ⟨g, o + 3, Option.none⟩ = some (.int .i64 E.table) ∧
  w.cell? ⟨g, o + 4, Option.none⟩ = some (.int .i64 E.row) ∧ w.cell? ⟨g, o + 5, Option.none⟩ = some (.int .i64 E.mode) ∧ w.cell? ⟨g, o + 6, Option.none⟩ = some (.int .i64 E.code)
theorem Cells7.below {w w1 : World} {g o : Nat} {E : Ev} (h : Cells7 w g o E) {B : Nat} (hb : Below B w w1) (hg : g < B) : Cells7 w1 g o E := by
  obtain ⟨a, b, c, d, e, f, i⟩ := h
  exact ⟨(hb.cell (p := ⟨g, _, Option.none⟩) hg).trans a, (hb.cell (p := ⟨g, _, Option.none⟩) hg).trans b, (hb.cell (p := ⟨g, _, Option.none⟩) hg).trans c, (hb.cell (p := ⟨g, _, Option.none⟩) hg).trans d, (hb.cell (p := ⟨g, _, Option.none⟩) hg).trans e, (hb.cell (p := ⟨g, _, Option.none⟩) hg).trans f, (hb.cell (p := ⟨g, _, Option.none⟩) hg).trans i⟩
/-- an event's numbers are numbers of their kind -/
def Ev.wf (e : Ev) : Prop := (Lit.int .i64 e.kind).wf = true ∧ (Lit.int .i64 e.client).wf = true ∧ (Lit.int .i64 e.tx).wf = true ∧ (Lit.int .i64 e.table).wf = true ∧ (Lit.int .i64 e.row).wf = true ∧ (Lit.int .i64 e.mode).wf = true ∧ (Lit.int .i64 e.code).wf = true
/-- the slice value (A, its length) holds the events es -/
def RdE (w : World) (A : Option Addr) (es : List Ev) : Prop :=
  ∃ g off, (0 < es.length → A = some ⟨g, off, Option.none⟩ ∧ g < w.heap.size) ∧ ∀ i, i < es.length → Cells7 w g (off + i * 7) (es.getD i Ev.none)
theorem RdE.below {w w1 : World} {A : Option Addr} {es : List Ev} (h : RdE w A es) {B : Nat} (hb : Below B w w1) (hB : w.heap.size ≤ B) : RdE w1 A es := by
  obtain ⟨g, off, hA, hc⟩ := h
  exact ⟨g, off, fun hn => ⟨(hA hn).1, Nat.lt_of_lt_of_le (hA hn).2 hb.size⟩, fun i hi => (hc i hi).below hb (Nat.lt_of_lt_of_le (hA (by omega)).2 hB)⟩
theorem RdE.take {w : World} {A : Option Addr} {es : List Ev} (h : RdE w A es) (k : Nat) : RdE w A (es.take k) := by
  obtain ⟨g, off, hA, hc⟩ := h
  refine ⟨g, off, fun hn => hA (by simp at hn; omega), fun i hi => ?_⟩
  simp at hi
  have := hc i (by omega)
  rwa [show (es.take k).getD i Ev.none = es.getD i Ev.none by rw [List.getD_eq_getElem?_getD, List.getD_eq_getElem?_getD, List.getElem?_take_of_lt (by omega)]]
def evV (es : List Ev) : List Value := es.flatMap Ev.cells

/-! locks -/
def Got.cells (g : Got) : List Value := [.int .i64 g.table, .int .i64 g.row, .int .i64 g.mode, .int .i64 g.place]
def Got.none : Got := ⟨0, 0, 0, 0⟩
def flatG (l : List Got) : List Value := l.flatMap Got.cells
theorem flatG_length (l : List Got) : (flatG l).length = 4 * l.length := by
  induction l with
  | nil => rfl
  | cons e r ih => rw [show flatG (e :: r) = e.cells ++ flatG r from rfl, List.length_append, ih, show e.cells.length = 4 from rfl, List.length_cons]; omega
theorem flatG_snoc (l : List Got) (g : Got) : flatG (l ++ [g]) = flatG l ++ g.cells := by simp [flatG]
theorem flatG_get (es : List Got) (i j : Nat) (hi : i < es.length) (hj : j < 4) : (flatG es)[4 * i + j]? = (es.getD i Got.none).cells[j]? := by
  induction es generalizing i with
  | nil => simp at hi
  | cons e r ih =>
    rw [show flatG (e :: r) = e.cells ++ flatG r from rfl]
    have hl : e.cells.length = 4 := rfl
    cases i with
    | zero => rw [List.getElem?_append_left (by omega)]; simp
    | succ i =>
      rw [List.getElem?_append_right (by omega), hl, show 4 * (i + 1) + j - 4 = 4 * i + j from by omega, ih i (by simpa using hi)]
      simp
def CellsG (w : World) (g o : Nat) (E : Got) : Prop :=
  w.cell? ⟨g, o, Option.none⟩ = some (.int .i64 E.table) ∧ w.cell? ⟨g, o + 1, Option.none⟩ = some (.int .i64 E.row) ∧ w.cell? ⟨g, o + 2, Option.none⟩ = some (.int .i64 E.mode) ∧ w.cell? ⟨g, o + 3, Option.none⟩ = some (.int .i64 E.place)
theorem CellsG.below {w w1 : World} {g o : Nat} {E : Got} (h : CellsG w g o E) {B : Nat} (hb : Below B w w1) (hg : g < B) : CellsG w1 g o E := by
  obtain ⟨a, b, c, d⟩ := h
  exact ⟨(hb.cell (p := ⟨g, _, Option.none⟩) hg).trans a, (hb.cell (p := ⟨g, _, Option.none⟩) hg).trans b, (hb.cell (p := ⟨g, _, Option.none⟩) hg).trans c, (hb.cell (p := ⟨g, _, Option.none⟩) hg).trans d⟩
def RdG (w : World) (A : Option Addr) (es : List Got) : Prop :=
  ∃ g off, (0 < es.length → A = some ⟨g, off, Option.none⟩ ∧ g < w.heap.size) ∧ ∀ i, i < es.length → CellsG w g (off + i * 4) (es.getD i Got.none)
theorem RdG.below {w w1 : World} {A : Option Addr} {es : List Got} (h : RdG w A es) (hb : Below w.heap.size w w1) : RdG w1 A es := by
  obtain ⟨g, off, hA, hc⟩ := h
  exact ⟨g, off, fun hn => ⟨(hA hn).1, Nat.lt_of_lt_of_le (hA hn).2 hb.size⟩, fun i hi => (hc i hi).below hb (hA (by omega)).2⟩
theorem rdg_of_own {w : World} {B : Nat} {T : TypeId} {v : Value} {n : Nat} {es : List Got} (h : w.ownsRow B T 4 v n (flatG es)) : es.length = n ∧ ∃ A cap, v = .slice A n cap ∧ n ≤ cap ∧ RdG w A es := by
  have hl : es.length = n := by have := h.1; rw [flatG_length] at this; omega
  refine ⟨hl, ?_⟩
  rcases h.2 with ⟨rfl, h0⟩ | ⟨g, cap, cur, rfl, hg, hh, hc, _⟩
  · subst h0
    have : es = [] := List.eq_nil_of_length_eq_zero hl
    subst this
    exact ⟨Option.none, 0, rfl, Nat.le_refl _, 0, 0, fun h => by simp at h, fun i h => by simp at h⟩
  · refine ⟨_, cap, rfl, hc, g, 0, fun _ => ⟨rfl, (Array.getElem?_eq_some_iff.1 hh).1⟩, fun i hi => ?_⟩
    have hf := fun j hj => flatG_get es i j hi hj
    have hA : ∀ j u, j < 4 → (es.getD i Got.none).cells[j]? = some u → w.cell? ⟨g, 4 * i + j, Option.none⟩ = some u := by
      intro j u hj hu
      have := h.cells (g := g) rfl (4 * i + j) u ((hf j hj).trans hu)
      rwa [add0] at this
    rw [Nat.zero_add, Nat.mul_comm i 4]
    exact ⟨by simpa using hA 0 _ (by omega) rfl, hA 1 _ (by omega) rfl, hA 2 _ (by omega) rfl, hA 3 _ (by omega) rfl⟩

/-! the map of what a transaction has -/
theorem laidOut20 : laidOutB Tryd.prog = true := by kernel_rfl
theorem resKeyed : Keyed Tryd.prog 40 := Keyed.of_law (deep_law_laid laidOut20 (m := 4) (by decide) (of_decide_eq_true (by kernel_rfl)) (by kernel_rfl) (by kernel_rfl))
def resK (t r : Int) : Lit := .string (keyBytes [.int .i64 t, .int .i64 r])
set_option maxRecDepth 100000 in
theorem keyOf_res {t r : Int} (ht : (Lit.int .i64 t).wf = true) (hr : (Lit.int .i64 r).wf = true) : keyOf Tryd.prog 40 (.agg #[.int .i64 t, .int .i64 r]) = some (resK t r) := by
  obtain ⟨m, hn⟩ : ∃ m, Tryd.prog.types.size + 1 = m + 2 := ⟨Tryd.prog.types.size - 1, by kernel_rfl⟩
  have hk : Tryd.prog.keyType 40 = true := by kernel_rfl
  have hc : Tryd.prog.cellsOf 40 = 2 := by kernel_rfl
  have hc1 : Tryd.prog.cellsOf 3 = 1 := by kernel_rfl
  have hu := Tryd.underlying40
  have hi := Tryd.underlying3
  unfold keyOf
  rw [hu]
  simp only []
  rw [if_pos (by simp [hk, Value.formed, hu, hc]), hn]
  generalize Tryd.prog = P at *
  simp [Program.keyLits, hu, Value.cells, hc, hc1, hi, ht, hr, resK]
theorem resK_inj {t r t' r' : Int} (ht : (Lit.int .i64 t).wf = true) (hr : (Lit.int .i64 r).wf = true) (ht' : (Lit.int .i64 t').wf = true) (hr' : (Lit.int .i64 r').wf = true) (h : resK t r = resK t' r') : t = t' ∧ r = r' := by
  have := resKeyed.inj (keyOf_res ht hr) (h ▸ keyOf_res ht' hr')
  simpa using this
def modeD (m : Int) : DataW Unit := .lit (.int .i64 m)
def gotD (l : List Got) : DataW Unit := l.foldl (fun D g => D.put (resK g.table g.row) (modeD g.mode)) (.map [])
theorem gotD_snoc (l : List Got) (g : Got) : gotD (l ++ [g]) = (gotD l).put (resK g.table g.row) (modeD g.mode) := by simp [gotD]
theorem modeOf_snoc (t r : Int) (l : List Got) (g : Got) : modeOf t r (l ++ [g]) = if g.table = t ∧ g.row = r then g.mode else modeOf t r l := by simp [modeOf]
theorem wf_of (n : Int) (h : -9223372036854775808 ≤ n ∧ n ≤ 9223372036854775807) : (Lit.int .i64 n).wf = true := by
  exact WalkArith.wf_i64 (by omega)
/-- each lock's resource is a resource, its mode a mode -/
def GotOk (l : List Got) : Prop := ∀ g ∈ l, resB g.table g.row = true ∧ 0 ≤ g.mode ∧ g.mode ≤ 4
theorem res_wf {t r : Int} (h : resB t r = true) : (Lit.int .i64 t).wf = true ∧ (Lit.int .i64 r).wf = true := by
  unfold resB at h
  simp at h
  exact ⟨wf_of _ (by omega), wf_of _ (by omega)⟩
theorem snoc_ind {α : Type} {P : List α → Prop} (h0 : P []) (h1 : ∀ l a, P l → P (l ++ [a])) (l : List α) : P l := by
  rw [← List.reverse_reverse l]
  induction l.reverse with
  | nil => exact h0
  | cons a r ih => rw [List.reverse_cons]; exact h1 _ _ ih
theorem modeOf_in {l : List Got} (h : GotOk l) (t r : Int) : 0 ≤ modeOf t r l ∧ modeOf t r l ≤ 4 := by
  revert h
  refine snoc_ind (P := fun l => GotOk l → 0 ≤ modeOf t r l ∧ modeOf t r l ≤ 4) (fun _ => by simp [modeOf]) (fun l g ih h => ?_) l
  rw [modeOf_snoc]
  split
  · exact (h g (by simp)).2
  · exact ih (fun x hx => h x (by simp [hx]))
theorem isMap_put {D : DataW Unit} (h : IsMap D) (k : Lit) (d : DataW Unit) : IsMap (D.put k d) := by
  obtain ⟨es, rfl⟩ := h
  exact ⟨_, rfl⟩
theorem gotD_is (l : List Got) : IsMap (gotD l) :=
  snoc_ind (P := fun l => IsMap (gotD l)) ⟨[], rfl⟩ (fun l g ih => by rw [gotD_snoc]; exact isMap_put ih _ _) l
theorem gotD_at {l : List Got} (h : GotOk l) {t r : Int} (ht : (Lit.int .i64 t).wf = true) (hr : (Lit.int .i64 r).wf = true) : (gotD l).atKey (resK t r) (modeD 0) = modeD (modeOf t r l) := by
  revert h
  refine snoc_ind (P := fun l => GotOk l → (gotD l).atKey (resK t r) (modeD 0) = modeD (modeOf t r l)) (fun _ => rfl) (fun l g ih h => ?_) l
  have ih' := ih (fun x hx => h x (by simp [hx]))
  obtain ⟨h1, h2⟩ := h g (by simp)
  obtain ⟨w1, w2⟩ := res_wf h1
  rw [gotD_snoc, modeOf_snoc]
  by_cases he : g.table = t ∧ g.row = r
  · rw [if_pos he]
    obtain ⟨rfl, rfl⟩ := he
    exact atKey_put_same (gotD_is l) (resKeyed.key (keyOf_res ht hr)) _ _
  · rw [if_neg he]
    rw [atKey_put_other (fun e => he (by have := resK_inj ht hr w1 w2 e; exact ⟨this.1.symm, this.2.symm⟩))]
    exact ih'
theorem modeZero (w : World) : (zeroValue 41).run Tryd.prog w = .ok (.int .i64 0) w := by kernel_rfl
/-- the map at mb holds what l says -/
def HasX (w : World) (mb : Nat) (l : List Got) : Prop := w.ownsMap Tryd.prog 40 (plainElem Tryd.prog 41) mb l.length (gotD l)
theorem HasX.look {w : World} {mb : Nat} {l : List Got} (h : HasX w mb l) (hl : GotOk l) {t r : Int} (ht : (Lit.int .i64 t).wf = true) (hr : (Lit.int .i64 r).wf = true) :
    (Instr.lookup 112 (.map (some mb)) (.agg #[.int .i64 t, .int .i64 r]) false).run Tryd.prog w = .ok (.int .i64 (modeOf t r l)) w := by
  obtain ⟨c, hrun, hat, _⟩ := World.ownsMap.lookup_int h resKeyed Tryd.underlying112 Tryd.underlying41 (modeZero w) (keyOf_res ht hr)
  have := gotD_at hl ht hr
  unfold modeD at this
  rw [this] at hat
  have e : modeOf t r l = c := by simpa using hat
  rw [e]; exact hrun
end Go.Proofs.YtggkohkngockoaaDoor

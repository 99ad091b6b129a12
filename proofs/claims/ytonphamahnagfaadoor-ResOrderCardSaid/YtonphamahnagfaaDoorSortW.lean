/-
  res.Sort: the resources of whatever slice, in order.
-/
import Derived.Test.YtonphamahnagfaaDoorSortC
import Derived.Test.YtonphamahnagfaaDoorShelfS
import Derived.Shelf.SlSortCmp.NoneTotal
import Derived.Laws.IdiomCopy
namespace Go.Proofs.YtonphamahnagfaaDoor
open Go.RowKit Go.Sort Go.Shelf
set_option linter.unusedVariables false
set_option linter.unusedSimpArgs false

theorem encR_one (x : R2) : ∀ v ∈ encR x, v.oneCell' = true := by
  intro v hv
  simp [encR] at hv
  rcases hv with rfl | rfl <;> rfl
theorem ltR_eq (x y : R2) : ltOf cmpR x y = decide (x.1 < y.1 ∨ x.1 = y.1 ∧ x.2 < y.2) := by
  unfold ltOf
  simp only [cmpR_neg]
theorem swoR : SWO (ltOf cmpR) where
  irrefl x := by rw [ltR_eq]; simp
  trans x y z h1 h2 := by rw [ltR_eq] at *; simp at *; omega
  ntrans x y z h1 h2 := by rw [ltR_eq] at *; simp at *; omega
theorem totR (x y : R2) (h1 : ltOf cmpR x y = false) (h2 : ltOf cmpR y x = false) : x = y := by
  rw [ltR_eq] at *
  simp at *
  exact Prod.ext (by omega) (by omega)
/-- the resources, in order -/
def sortR (rs : List R2) : List R2 := rs.mergeSort fun x y => !(ltOf cmpR) y x
theorem sortR_perm (rs : List R2) : (sortR rs).Perm rs := List.mergeSort_perm _ _
theorem sortR_length (rs : List R2) : (sortR rs).length = rs.length := (sortR_perm rs).length_eq
theorem sortR_sorted (rs : List R2) : (sortR rs).Pairwise fun x y => ¬ (y.1 < x.1 ∨ y.1 = x.1 ∧ y.2 < x.2) := by
  have h := List.pairwise_mergeSort (le := fun x y : R2 => !(ltOf cmpR) y x) (by
    intro a b c h1 h2
    simp only [ltR_eq] at *
    simp at *
    omega) (by
    intro a b
    simp only [ltR_eq]
    simp
    omega) rs
  refine h.imp ?_
  intro a b hab
  simp only [ltR_eq] at hab
  simp at hab ⊢
  omega
theorem getD_flatK (rs : List R2) (j : Nat) (hj : j < rs.length) : rs.toArray[j]! = rs.getD j (0, 0) := by
  rw [List.getD_eq_getElem?_getD, List.getElem?_eq_getElem hj]
  simp [hj]
theorem flatR_get : ∀ (rs : List R2) (i c : Nat), i < rs.length → c < 2 → (flatR rs)[i * 2 + c]? = (encR (rs.getD i (0, 0)))[c]?
  | [], i, c, hi, hc => by simp at hi
  | x :: r, 0, c, hi, hc => by
    show (encR x ++ flatR r)[0 * 2 + c]? = _
    rw [List.getElem?_append_left (by simp [encR]; omega)]
    simp
  | x :: r, i + 1, c, hi, hc => by
    show (encR x ++ flatR r)[(i + 1) * 2 + c]? = _
    rw [List.getElem?_append_right (by simp [encR]; omega), show (i + 1) * 2 + c - (encR x).length = i * 2 + c from by simp [encR]; omega, flatR_get r i c (by simpa using hi) hc]
    simp
theorem addR (g j : Nat) : (⟨g, 0, none⟩ : Addr).add j = ⟨g, j, none⟩ := by
  cases j with
  | zero => rfl
  | succ j => simp [Addr.add]
theorem holds_of_own {w : World} {B n : Nat} {v : Value} {rs : List R2} (h : w.ownsRow B 24 2 v n (flatR rs)) (hn : rs.length = n) (hpos : 0 < n) :
    ∃ g cap, v = .slice (some ⟨g, 0, none⟩) n cap ∧ B ≤ g ∧ g < w.heap.size ∧ HoldsK encR 2 w g 0 rs.toArray := by
  rcases h.2 with ⟨_, h0⟩ | ⟨g, cap, cur, rfl, hg, hh, hc, _⟩
  · omega
  · refine ⟨g, cap, rfl, hg, (Array.getElem?_eq_some_iff.1 hh).1, fun j hj => ⟨?_, ?_⟩⟩
    · have hj' : j < rs.length * 2 := by simpa using hj
      have hjr : j / 2 < rs.length := by omega
      have h2 := flatR_get rs (j / 2) (j % 2) hjr (by omega)
      rw [show j / 2 * 2 + j % 2 = j by omega] at h2
      have h3 : (encR (rs.getD (j / 2) (0, 0)))[j % 2]? = some ((encR (rs.getD (j / 2) (0, 0)))[j % 2]!) := by
        have : j % 2 < (encR (rs.getD (j / 2) (0, 0))).length := by simp [encR]; omega
        rw [List.getElem!_eq_getElem?_getD, List.getElem?_eq_getElem this]; rfl
      rw [get_flatK _ _ _ _ (by simpa using hj), getD_flatK rs _ hjr]
      have := h.cells (g := g) rfl j _ (h2.trans h3)
      rw [addR] at this
      rw [Nat.zero_add]
      exact this
    · simp [World.frozen?, hh]
theorem rd_of_holds {w : World} {g o n0 : Nat} {rs : List R2} (h : HoldsK encR 2 w g o rs.toArray) (hg : g < n0) : RdR0 n0 w (some ⟨g, o, none⟩) rs := by
  refine ⟨g, o, fun _ => ⟨rfl, hg⟩, fun j hj => ?_⟩
  have h0 := (h.cell (i := j) (c := 0) (by simpa using hj) (by omega)).1
  have h1 := (h.cell (i := j) (c := 1) (by simpa using hj) (by omega)).1
  rw [getD_flatK rs j hj] at h0 h1
  exact ⟨h0, h1⟩
theorem sort_below {w : World} {g o n B : Nat} {d : Array R2} {os : Array Obj} (hB : B ≤ g) (hw : B ≤ w.heap.size) : Below B w (sortWorldK encR 2 w g o n d os) := by
  refine ⟨rfl, rfl, rfl, ?_, fun k hk => ?_⟩
  · show w.heap.size ≤ ((w.heap.modify g _) ++ os).size
    simp
  · show ((w.heap.modify g _) ++ os)[k]? = w.heap[k]?
    rw [Array.getElem?_append_left (by simp; omega), Array.getElem?_modify, if_neg (by omega)]
theorem sort_holds {w : World} {g o n : Nat} {d d' : Array R2} {os : Array Obj} (h : HoldsK encR 2 w g o d) (hs : d'.size = d.size) (hg : g < w.heap.size) : HoldsK encR 2 (sortWorldK encR 2 w g o n d' os) g o d' := by
  unfold sortWorldK
  refine holdsK_grow _ _ _ _ _ _ _ (by show g < (w.heap.modify g _).size; simpa using hg) ?_
  exact holdsK_putRowK _ _ _ _ _ d d' (holdsK_ahead _ _ _ _ _ _ _ h) hs
theorem sort_size {w : World} {g o n : Nat} {d : Array R2} {os : Array Obj} : w.heap.size ≤ (sortWorldK encR 2 w g o n d os).heap.size := by
  show w.heap.size ≤ ((w.heap.modify g _) ++ os).size
  simp
theorem cmpLays (g o size : Nat) (w : World) : CmpLays Tryd.prog 32 #[] encR 2 cmpR g o size w :=
  fun _ _ _ _ x y => sort1_any x y _
/-- slices.SortFunc by that comparison -/
theorem sortFunc_any (g o cap : Nat) (rs : List R2) (w : World) (hH : HoldsK encR 2 w g o rs.toArray) (hg : g < w.heap.size) (hn : rs.length ≤ 1000000) :
    Calls Tryd.prog 43 #[.slice (some ⟨g, o, none⟩) rs.length cap, .func (.func 32) #[] #[]] w fun e w' => e = .returned (.tuple #[]) ∧ ∃ n os, w' = sortWorldK encR 2 w g o n (sortR rs).toArray os := by
  have eg : ∀ args w, (callFunc 32 args).run Tryd.prog w = .ok (.enter 32 args) w := enters_of Tryd.func32 (by kernel_rfl) rfl
  have hcon := AnyQ.slices_SortFunc_total Tryd.sortRes 2 Tryd.isAgg24 Tryd.sizeOf24 encR (fun _ => rfl) encR_one cmpR swoR 32 #[] g o cap rs.toArray w eg (cmpLays g o rs.toArray.size w) hH hg (by simp; omega) totR
  exact hcon
end Go.Proofs.YtonphamahnagfaaDoor

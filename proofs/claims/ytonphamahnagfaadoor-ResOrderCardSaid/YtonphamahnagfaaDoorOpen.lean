/-
  An argument that is a slice of structs, structs inside them too: each leaf's cell. No conditions.
-/
import Derived.Test.YtonphamahnagfaaDoorRows
import Derived.WalkKit
import Derived.ProofKit
import Derived.OpenShut
import Derived.Deep.Slices
import Derived.Deep.Fields
import Derived.ChangeSame
namespace Go.Proofs.YtonphamahnagfaaDoor
open Go.ChangeShapes Go.WideShapes Go.ChangeAt Go.RowKit Go.Deep
set_option linter.unusedVariables false

section
variable {H : Type} {enc : TypeId × Value → H} {P : Program} {w : World} {base : Nat} {spare : Nat → Bool} {held : Bool}

/-- the place and the type at the end of a path of fields -/
def leafOf (P : Program) : List Nat → TypeId → Option (Nat × TypeId)
  | [], t => some (0, t)
  | i :: r, t => match P.underlying t with
    | some (.struct fs) => match fs[i]? with
      | some f => match leafOf P r f.type with
        | some (o, T) => if o + P.cellsOf T ≤ P.cellsOf f.type then some (f.offset + o, T) else none
        | none => none
      | none => none
    | _ => none

theorem trod_leaf (path : List Nat) : ∀ {t T : TypeId} {o fuel : Nat} {cs : List Value} {x : DataW H × List MemPlace}, leafOf P path t = some (o, T) → cs.length ≤ P.cellsOf t → DataW.trod enc P w base spare held fuel t cs = some x →
    ∃ n y, DataW.trod enc P w base spare held n T ((cs.drop o).take (P.cellsOf T)) = some y := by
  induction path with
  | nil =>
    intro t T o fuel cs x hp hl h
    simp only [leafOf, Option.some.injEq, Prod.mk.injEq] at hp
    obtain ⟨rfl, rfl⟩ := hp
    exact ⟨fuel, x, by rw [List.drop_zero, List.take_of_length_le hl]; exact h⟩
  | cons i r ih =>
    intro t T o fuel cs x hp hl h
    unfold leafOf at hp
    cases hu : P.underlying t with
    | none => rw [hu] at hp; cases hp
    | some U =>
      cases U with
      | struct fs =>
        rw [hu] at hp
        simp only at hp
        cases hf : fs[i]? with
        | none => rw [hf] at hp; cases hp
        | some f =>
          rw [hf] at hp
          simp only at hp
          cases hr : leafOf P r f.type with
          | none => rw [hr] at hp; cases hp
          | some oT =>
            obtain ⟨o', T'⟩ := oT
            rw [hr] at hp
            simp only at hp
            split at hp
            · rename_i hle
              simp only [Option.some.injEq, Prod.mk.injEq] at hp
              obtain ⟨rfl, rfl⟩ := hp
              obtain ⟨ys, n, _, _, _, hyl, hat⟩ := DataW.trod_struct hu h
              have hi : i < fs.size := (Array.getElem?_eq_some_iff.1 hf).1
              have h1 := hat i f hf
              have hys : ys[i]? = some (ys[i]'(by omega)) := List.getElem?_eq_getElem (by omega)
              rw [hys] at h1
              obtain ⟨n', y, h2⟩ := ih hr (by rw [List.length_take]; omega) h1
              refine ⟨n', y, ?_⟩
              have e : ((((cs.drop f.offset).take (P.cellsOf f.type)).drop o').take (P.cellsOf T')) = ((cs.drop (f.offset + o')).take (P.cellsOf T')) := by
                rw [List.drop_take, List.take_take, List.drop_drop, Nat.min_eq_left (by omega)]
              rw [e] at h2
              exact h2
            · cases hp
      | _ => rw [hu] at hp; cases hp

/-- an integer leaf -/
theorem leaf_int (path : List Nat) {t T : TypeId} {o fuel : Nat} {k : IntKind} {cs : List Value} {x : DataW H × List MemPlace} (hp : leafOf P path t = some (o, T)) (hT : P.underlying T = some (.int k)) (h1 : P.cellsOf T = 1) (hl : cs.length ≤ P.cellsOf t)
    (h : DataW.trod enc P w base spare held fuel t cs = some x) : ∃ z, cs[o]? = some (.int k z) ∧ (Lit.int k z).wf = true := by
  obtain ⟨n, y, h2⟩ := trod_leaf path hp hl h
  obtain ⟨z, hz, _, hw⟩ := DataW.trod_int hT h2
  rw [h1] at hz
  refine ⟨z, ?_, hw⟩
  have : ((cs.drop o).take 1)[0]? = some (.int k z) := by rw [hz]; rfl
  rw [List.getElem?_take_of_lt (by omega), List.getElem?_drop] at this
  simpa using this
/-- a leaf that is a bool -/
theorem leaf_bool (path : List Nat) {t T : TypeId} {o fuel : Nat} {cs : List Value} {x : DataW H × List MemPlace} (hp : leafOf P path t = some (o, T)) (hT : P.underlying T = some .bool) (h1 : P.cellsOf T = 1) (hl : cs.length ≤ P.cellsOf t)
    (h : DataW.trod enc P w base spare held fuel t cs = some x) : ∃ z, cs[o]? = some (.bool z) := by
  obtain ⟨n, y, h2⟩ := trod_leaf path hp hl h
  obtain ⟨z, hz, _⟩ := DataW.trod_bool hT h2
  rw [h1] at hz
  refine ⟨z, ?_⟩
  have : ((cs.drop o).take 1)[0]? = some (.bool z) := by rw [hz]; rfl
  rw [List.getElem?_take_of_lt (by omega), List.getElem?_drop] at this
  simpa using this
/-- a leaf that is a text -/
theorem leaf_string (path : List Nat) {t T : TypeId} {o fuel : Nat} {cs : List Value} {x : DataW H × List MemPlace} (hp : leafOf P path t = some (o, T)) (hT : P.underlying T = some .string) (h1 : P.cellsOf T = 1) (hl : cs.length ≤ P.cellsOf t)
    (h : DataW.trod enc P w base spare held fuel t cs = some x) : ∃ z : ByteArray, cs[o]? = some (.string z) ∧ z.size ≤ maxLen := by
  obtain ⟨n, y, h2⟩ := trod_leaf path hp hl h
  obtain ⟨z, hz, _, hm⟩ := DataW.trod_string hT h2
  rw [h1] at hz
  refine ⟨z, ?_, hm⟩
  have : ((cs.drop o).take 1)[0]? = some (.string z) := by rw [hz]; rfl
  rw [List.getElem?_take_of_lt (by omega), List.getElem?_drop] at this
  simpa using this

/-- a slice of structs: nil, or a row whose elements' cells are read -/
theorem open_rows {t e : TypeId} {fuel : Nat} {v : Value} {x : DataW H × List MemPlace} (ht : P.underlying t = some (.slice e)) (hC : 0 < P.cellsOf e) (h : DataW.trod enc P w base spare held fuel t [v] = some x) :
    v = .slice none 0 0 ∨ ∃ (g off len cap : Nat), (0 < len → v = .slice (some ⟨g, off, none⟩) len cap ∧ g < w.heap.size) ∧ (∃ a, v = .slice a len cap) ∧ len ≤ cap ∧ cap ≤ maxLen ∧
      ∀ i, i < len → ∃ cs n y, cs.length = P.cellsOf e ∧ (∀ j, j < P.cellsOf e → w.cell? ⟨g, off + i * P.cellsOf e + j, none⟩ = cs[j]?) ∧ DataW.trod enc P w base spare held n e cs = some y := by
  rcases open_slice ht h with ⟨h0, _⟩ | ⟨a, len, cap, m, n, D, Pl, hcs, hb, hl, hm, hmm, hx, hi⟩
  · exact .inl (by simpa using h0)
  · have hv : v = .slice (some a) len cap := by simpa using hcs
    have hlm : len ≤ m := by rw [hmm]; split <;> omega
    right
    rcases Nat.eq_zero_or_pos len with h0 | h0
    · subst h0
      exact ⟨0, 0, 0, cap, fun h => by omega, ⟨_, hv⟩, hl, hm, fun i h => by omega⟩
    · obtain ⟨b, off, spot⟩ := a
      obtain ⟨cs0, hc0, _⟩ := hi 0 (by omega)
      obtain ⟨_, hl0, hat0⟩ := World.cells?_some hc0
      have hc00 := hat0 0 hC
      rw [List.getElem?_eq_getElem (by omega)] at hc00
      have hspot : spot = none := by simpa [Addr.add] using World.cell?_spot hc00
      subst hspot
      have hadd : ∀ k, (⟨b, off, none⟩ : Addr).add k = ⟨b, off + k, none⟩ := fun k => Go.WideShapes.add_plain ..
      refine ⟨b, off, len, cap, fun _ => ⟨hv, ?_⟩, ⟨_, hv⟩, hl, hm, fun i hil => ?_⟩
      · rcases Nat.lt_or_ge b w.heap.size with h' | h'
        · exact h'
        · simp [Addr.add, World.cell?, Array.getElem?_eq_none h'] at hc00
      · obtain ⟨cs, hc, ht'⟩ := hi i (by omega)
        obtain ⟨_, hcl, hat⟩ := World.cells?_some hc
        refine ⟨cs, n, _, hcl, fun j hj => ?_, ht'⟩
        have := hat j hj
        rw [hadd] at this
        have e2 : (⟨b, off + i * P.cellsOf e, none⟩ : Addr).add j = ⟨b, off + i * P.cellsOf e + j, none⟩ := Go.WideShapes.add_plain ..
        rw [e2] at this
        exact this
end

/-- what each place has, as a list -/
theorem list_of {α : Type} (d : α) (n : Nat) (R : Nat → α → Prop) (h : ∀ i, i < n → ∃ x, R i x) : ∃ xs : List α, xs.length = n ∧ ∀ i, i < n → R i (xs.getD i d) := by
  induction n with
  | zero => exact ⟨[], rfl, fun i hi => by omega⟩
  | succ n ih =>
    obtain ⟨xs, hl, hx⟩ := ih fun i hi => h i (by omega)
    obtain ⟨x, hr⟩ := h n (by omega)
    refine ⟨xs ++ [x], by simp [hl], fun i hi => ?_⟩
    rcases Nat.lt_or_ge i n with h' | h'
    · rw [List.getD_eq_getElem?_getD, List.getElem?_append_left (by omega), ← List.getD_eq_getElem?_getD]; exact hx i h'
    · have : i = n := by omega
      subst this
      rw [List.getD_eq_getElem?_getD, List.getElem?_append_right (by omega)]
      simpa [hl] using hr
end Go.Proofs.YtonphamahnagfaaDoor

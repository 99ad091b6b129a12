/-
  Arguments, opened. No conditions beyond those that each theorem states.
-/
import Derived.Test.YtjpjlfjaapfnkaaGreatDoorRows
import Derived.Test.YtjpjlfjaapfnkaaGreatDoorDMK
import Derived.Test.YtjpjlfjaapfnkaaGreatDoorDMS
import Derived.WalkKit
import Derived.ProofKit
import Derived.OpenShut
import Derived.Deep.Slices
import Derived.Deep.Fields
import Derived.ChangeSame
set_option linter.unusedVariables false
set_option linter.unusedSimpArgs false
namespace Go.Proofs.YtjpjlfjaapfnkaaGreatDoor
open Go.ChangeShapes Go.WideShapes Go.ChangeAt Go.RowKit Go.Deep
section
variable {H : Type} {enc : TypeId × Value → H} {P : Program} {w : World} {base : Nat} {spare : Nat → Bool} {held : Bool}
def leafOf (P : Program) : List Nat → TypeId → Option (Nat × TypeId)
 | [], t => some (0, t)
 | i :: r, t => match P.underlying t with
  | some (.struct fs) => match fs[i]? with
   | some f => match leafOf P r f.type with
    | some (o, T) => if o + P.cellsOf T ≤ P.cellsOf f.type then some (f.offset + o, T) else none
    | none => none
   | none => none
  | _ => none
theorem trod_leaf (path : List Nat) : ∀ {t T : TypeId} {o fuel : Nat} {cs : List Value} {x : DataW H × List MemPlace}, leafOf P path t = some (o, T) → cs.length ≤ P.cellsOf t → DataW.trod enc P w base spare held fuel t cs = some x →
 ∃ n y, DataW.trod enc P w base spare held n T ((cs.drop o).take (P.cellsOf T)) = some y := by
 induction path with
 | nil =>
  intro t T o fuel cs x hp hl h
  simp only [leafOf, Option.some.injEq, Prod.mk.injEq] at hp
  obtain ⟨rfl, rfl⟩ := hp
  exact ⟨fuel, x, by rw [List.drop_zero, List.take_of_length_le hl]; exact h⟩
 | cons i r ih =>
  intro t T o fuel cs x hp hl h
  unfold leafOf at hp
  cases hu : P.underlying t with
  | none => rw [hu] at hp; cases hp
  | some U =>
   cases U with
   | struct fs =>
    rw [hu] at hp
    simp only at hp
    cases hf : fs[i]? with
    | none => rw [hf] at hp; cases hp
    | some f =>
     rw [hf] at hp
     simp only at hp
     cases hr : leafOf P r f.type with
     | none => rw [hr] at hp; cases hp
     | some oT =>
      obtain ⟨o', T'⟩ := oT
      rw [hr] at hp
      simp only at hp
      split at hp
      ·rename_i hle
       simp only [Option.some.injEq, Prod.mk.injEq] at hp
       obtain ⟨rfl, rfl⟩ := hp
       obtain ⟨ys, n, _, _, _, hyl, hat⟩ := DataW.trod_struct hu h
       have hi : i < fs.size := (Array.getElem?_eq_some_iff.1 hf).1
       have h1 := hat i f hf
       have hys : ys[i]? = some (ys[i]'(by omega)) := List.getElem?_eq_getElem (by omega)
       rw [hys] at h1
       obtain ⟨n', y, h2⟩ := ih hr (by rw [List.length_take]; omega) h1
       refine ⟨n', y, ?_⟩
       have e : ((((cs.drop f.offset).take (P.cellsOf f.type)).drop o').take (P.cellsOf T')) = ((cs.drop (f.offset + o')).take (P.cellsOf T')) := by
        rw [List.drop_take, List.take_take, List.drop_drop, Nat.min_eq_left (by omega)]
       rw [e] at h2
       exact h2
      ·cases hp
   | _ => rw [hu] at hp; cases hp
theorem leaf_int (path : List Nat) {t T : TypeId} {o fuel : Nat} {k : IntKind} {cs : List Value} {x : DataW H × List MemPlace} (hp : leafOf P path t = some (o, T)) (hT : P.underlying T = some (.int k)) (h1 : P.cellsOf T = 1) (hl : cs.length ≤ P.cellsOf t)
 (h : DataW.trod enc P w base spare held fuel t cs = some x) : ∃ z, cs[o]? = some (.int k z) ∧ (Lit.int k z).wf = true := by
 obtain ⟨n, y, h2⟩ := trod_leaf path hp hl h
 obtain ⟨z, hz, _, hw⟩ := DataW.trod_int hT h2
 rw [h1] at hz
 refine ⟨z, ?_, hw⟩
 have : ((cs.drop o).take 1)[0]? = some (.int k z) := by rw [hz]; rfl
 rw [List.getElem?_take_of_lt (by omega), List.getElem?_drop] at this
 simpa using this
theorem open_rows {t e : TypeId} {fuel : Nat} {v : Value} {x : DataW H × List MemPlace} (ht : P.underlying t = some (.slice e)) (hC : 0 < P.cellsOf e) (h : DataW.trod enc P w base spare held fuel t [v] = some x) :
 v = .slice none 0 0 ∨ ∃ (g off len cap : Nat), (0 < len → v = .slice (some ⟨g, off, none⟩) len cap ∧ g < w.heap.size) ∧ (∃ a, v = .slice a len cap) ∧ len ≤ cap ∧ cap ≤ maxLen ∧
  ∀ i, i < len → ∃ cs n y, cs.length = P.cellsOf e ∧ (∀ j, j < P.cellsOf e → w.cell? ⟨g, off + i * P.cellsOf e + j, none⟩ = cs[j]?) ∧ DataW.trod enc P w base spare held n e cs = some y := by
 rcases open_slice ht h with ⟨h0, _⟩ | ⟨a, len, cap, m, n, D, Pl, hcs, hb, hl, hm, hmm, hx, hi⟩
 ·exact .inl (by simpa using h0)
 ·have hv : v = .slice (some a) len cap := by simpa using hcs
  have hlm : len ≤ m := by rw [hmm]; split <;> omega
  right
  rcases Nat.eq_zero_or_pos len with h0 | h0
  ·subst h0
   exact ⟨0, 0, 0, cap, fun h => by omega, ⟨_, hv⟩, hl, hm, fun i h => by omega⟩
  ·obtain ⟨b, off, spot⟩ := a
   obtain ⟨cs0, hc0, _⟩ := hi 0 (by omega)
   obtain ⟨_, hl0, hat0⟩ := World.cells?_some hc0
   have hc00 := hat0 0 hC
   rw [List.getElem?_eq_getElem (by omega)] at hc00
   have hspot : spot = none := by simpa [Addr.add] using World.cell?_spot hc00
   subst hspot
   have hadd : ∀ k, (⟨b, off, none⟩ : Addr).add k = ⟨b, off + k, none⟩ := fun k => Go.WideShapes.add_plain ..
   refine ⟨b, off, len, cap, fun _ => ⟨hv, ?_⟩, ⟨_, hv⟩, hl, hm, fun i hil => ?_⟩
   ·rcases Nat.lt_or_ge b w.heap.size with h' | h'
    ·exact h'
    ·simp [Addr.add, World.cell?, Array.getElem?_eq_none h'] at hc00
   ·obtain ⟨cs, hc, ht'⟩ := hi i (by omega)
    obtain ⟨_, hcl, hat⟩ := World.cells?_some hc
    refine ⟨cs, n, _, hcl, fun j hj => ?_, ht'⟩
    have := hat j hj
    rw [hadd] at this
    have e2 : (⟨b, off + i * P.cellsOf e, none⟩ : Addr).add j = ⟨b, off + i * P.cellsOf e + j, none⟩ := Go.WideShapes.add_plain ..
    rw [e2] at this
    exact this
end
theorem list_of {α : Type} (d : α) (n : Nat) (R : Nat → α → Prop) (h : ∀ i, i < n → ∃ x, R i x) : ∃ xs : List α, xs.length = n ∧ ∀ i, i < n → R i (xs.getD i d) := by
 induction n with
 | zero => exact ⟨[], rfl, fun i hi => by omega⟩
 | succ n ih =>
  obtain ⟨xs, hl, hx⟩ := ih fun i hi => h i (by omega)
  obtain ⟨x, hr⟩ := h n (by omega)
  refine ⟨xs ++ [x], by simp [hl], fun i hi => ?_⟩
  rcases Nat.lt_or_ge i n with h' | h'
  ·rw [List.getD_eq_getElem?_getD, List.getElem?_append_left (by omega), ← List.getD_eq_getElem?_getD]; exact hx i h'
  ·have : i = n := by omega
   subst this
   rw [List.getD_eq_getElem?_getD, List.getElem?_append_right (by omega)]
   simpa [hl] using hr
end Go.Proofs.YtjpjlfjaapfnkaaGreatDoor
namespace Go.Proofs.YtjpjlfjaapfnkaaGreatDoor.C20
open Go.ChangeShapes Go.WideShapes Go.ChangeAt Go.RowKit
theorem rde_nil (w : World) (A : Option Addr) : RdE w A [] := ⟨0, 0, fun h => by simp at h, fun i h => by simp at h⟩
def IsEvs (w : World) (a : Option Addr) (len cap : Nat) : Prop := ∃ es, es.length = len ∧ len ≤ cap ∧ RdE w a es ∧ ∀ i, i < len → (es.getD i Ev.none).wf
theorem isEvs_of_trod {H : Type} {enc : TypeId × Value → H} {w : World} {base fuel : Nat} {spare : Nat → Bool} {held : Bool} {a : Option Addr} {len cap : Nat} {x : DataW H × List MemPlace}
 (h : DataW.trod enc Tryz.prog w base spare held fuel 55 [.slice a len cap] = some x) : IsEvs w a len cap := by
 have hC : Tryz.prog.cellsOf 44 = 7 := by kernel_rfl
 rcases open_rows Tryz.underlying55 (by rw [hC]; omega) h with h0 | ⟨g, off, l, c, hA, ⟨a', ha⟩, hlc, _, hi⟩
 ·simp only [Value.slice.injEq] at h0
  obtain ⟨rfl, rfl, rfl⟩ := h0
  exact ⟨[], rfl, Nat.le_refl _, rde_nil w none, fun i hi => absurd hi (Nat.not_lt_zero _)⟩
 ·simp only [Value.slice.injEq] at ha
  obtain ⟨rfl, rfl, rfl⟩ := ha
  rw [hC] at hi
  obtain ⟨es, hl, he⟩ := list_of Ev.none len (fun i E => Cells7 w g (off + i * 7) E ∧ E.wf) fun i hil => by
   obtain ⟨cs, n, y, hcl, hat, ht⟩ := hi i hil
   have hle : cs.length ≤ Tryz.prog.cellsOf 44 := by rw [hC, hcl]; exact Nat.le_refl _
   obtain ⟨z0, h0, u0⟩ := leaf_int [0] (T := 3) (o := 0) (by kernel_rfl) Tryz.underlying3 (by kernel_rfl) hle ht
   obtain ⟨z1, h1, u1⟩ := leaf_int [1] (T := 3) (o := 1) (by kernel_rfl) Tryz.underlying3 (by kernel_rfl) hle ht
   obtain ⟨z2, h2, u2⟩ := leaf_int [2] (T := 3) (o := 2) (by kernel_rfl) Tryz.underlying3 (by kernel_rfl) hle ht
   obtain ⟨z3, h3, u3⟩ := leaf_int [3, 0] (T := 3) (o := 3) (by kernel_rfl) Tryz.underlying3 (by kernel_rfl) hle ht
   obtain ⟨z4, h4, u4⟩ := leaf_int [3, 1] (T := 3) (o := 4) (by kernel_rfl) Tryz.underlying3 (by kernel_rfl) hle ht
   obtain ⟨z5, h5, u5⟩ := leaf_int [4] (T := 31) (o := 5) (by kernel_rfl) Tryz.underlying31 (by kernel_rfl) hle ht
   obtain ⟨z6, h6, u6⟩ := leaf_int [5] (T := 3) (o := 6) (by kernel_rfl) Tryz.underlying3 (by kernel_rfl) hle ht
   exact ⟨⟨z0, z1, z2, z3, z4, z5, z6⟩, ⟨(hat 0 (by omega)).trans h0, (hat 1 (by omega)).trans h1, (hat 2 (by omega)).trans h2, (hat 3 (by omega)).trans h3, (hat 4 (by omega)).trans h4, (hat 5 (by omega)).trans h5, (hat 6 (by omega)).trans h6⟩, ⟨u0, u1, u2, u3, u4, u5, u6⟩⟩
  refine ⟨es, hl, hlc, ⟨g, off, fun hn => ?_, fun i hil => (he i (by omega)).1⟩, fun i hil => (he i hil).2⟩
  obtain ⟨hv, hg⟩ := hA (by omega)
  simp only [Value.slice.injEq] at hv
  exact ⟨hv.1, hg⟩
end Go.Proofs.YtjpjlfjaapfnkaaGreatDoor.C20
namespace Go.Proofs.YtjpjlfjaapfnkaaGreatDoor
open Go.ChangeShapes Go.WideShapes Go.ChangeAt Go.RowKit
def IsEnts (w : World) (a : Option Addr) (len cap : Nat) : Prop := ∃ es, es.length = len ∧ len ≤ cap ∧ RdEo w a es
theorem isEnts_of_trod {H : Type} {enc : TypeId × Value → H} {w : World} {base fuel : Nat} {spare : Nat → Bool} {held : Bool} {a : Option Addr} {len cap : Nat} {x : DataW H × List MemPlace}
 (h : DataW.trod enc Tryz.prog w base spare held fuel 56 [.slice a len cap] = some x) : IsEnts w a len cap := by
 have hC : Tryz.prog.cellsOf 25 = 6 := by kernel_rfl
 rcases open_rows Tryz.underlying56 (by rw [hC]; omega) h with h0 | ⟨g, off, l, c, hA, ⟨a', ha⟩, hlc, _, hi⟩
 ·simp only [Value.slice.injEq] at h0
  obtain ⟨rfl, rfl, rfl⟩ := h0
  exact ⟨[], rfl, Nat.le_refl _, rdeo_nil w none⟩
 ·simp only [Value.slice.injEq] at ha
  obtain ⟨rfl, rfl, rfl⟩ := ha
  rw [hC] at hi
  obtain ⟨es, hl, he⟩ := list_of Ent.none len (fun i E => Cells6 w g (off + i * 6) E) fun i hil => by
   obtain ⟨cs, n, y, hcl, hat, ht⟩ := hi i hil
   have hle : cs.length ≤ Tryz.prog.cellsOf 25 := by rw [hC, hcl]; exact Nat.le_refl _
   obtain ⟨z0, h0, _⟩ := leaf_int [0] (T := 3) (o := 0) (by kernel_rfl) Tryz.underlying3 (by kernel_rfl) hle ht
   obtain ⟨z1, h1, _⟩ := leaf_int [1] (T := 3) (o := 1) (by kernel_rfl) Tryz.underlying3 (by kernel_rfl) hle ht
   obtain ⟨z2, h2, _⟩ := leaf_int [2, 0] (T := 3) (o := 2) (by kernel_rfl) Tryz.underlying3 (by kernel_rfl) hle ht
   obtain ⟨z3, h3, _⟩ := leaf_int [2, 1] (T := 3) (o := 3) (by kernel_rfl) Tryz.underlying3 (by kernel_rfl) hle ht
   obtain ⟨z4, h4, _⟩ := leaf_int [3] (T := 3) (o := 4) (by kernel_rfl) Tryz.underlying3 (by kernel_rfl) hle ht
   obtain ⟨z5, h5, _⟩ := leaf_int [4] (T := 3) (o := 5) (by kernel_rfl) Tryz.underlying3 (by kernel_rfl) hle ht
   exact ⟨⟨z0, z1, z2, z3, z4, z5⟩, (hat 0 (by omega)).trans h0, (hat 1 (by omega)).trans h1, (hat 2 (by omega)).trans h2, (hat 3 (by omega)).trans h3, (hat 4 (by omega)).trans h4, (hat 5 (by omega)).trans h5⟩
  refine ⟨es, hl, hlc, g, off, fun hn => ?_, fun i hil => he i (by omega)⟩
  obtain ⟨hv, hg⟩ := hA (by omega)
  simp only [Value.slice.injEq] at hv
  exact ⟨hv.1, hg⟩
end Go.Proofs.YtjpjlfjaapfnkaaGreatDoor

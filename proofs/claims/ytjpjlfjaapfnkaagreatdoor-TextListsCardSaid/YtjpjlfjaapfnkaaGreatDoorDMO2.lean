/-
  TextWhole. No conditions beyond those that each theorem states.
-/
import Derived.Test.YtjpjlfjaapfnkaaGreatDoorDMM2
set_option linter.unusedVariables false
set_option linter.unusedSimpArgs false
namespace Go.Proofs.YtjpjlfjaapfnkaaGreatDoor
open Go.ChangeShapes Go.WideShapes Go.ChangeAt Go.RowKit
open C20 (Ev formB evC)
theorem cells6_of {w : World} {g o : Nat} {e : Ent} (h : ∀ j u, j < 6 → e.cells[j]? = some u → w.cell? ⟨g, o + j, none⟩ = some u) : Cells6 w g o e :=
 ⟨h 0 _ (by omega) rfl, h 1 _ (by omega) rfl, h 2 _ (by omega) rfl, h 3 _ (by omega) rfl, h 4 _ (by omega) rfl, h 5 _ (by omega) rfl⟩
theorem rdeo_of_own {w : World} {B : Nat} {T : TypeId} {v : Value} {n : Nat} {es : List Ent} (h : w.ownsRow B T 6 v n (flat es)) : es.length = n ∧ ∃ A cap, v = .slice A n cap ∧ n ≤ cap ∧ RdEo w A es := by
 have hl : es.length = n := by have := h.1; rw [flat_length] at this; omega
 refine ⟨hl, ?_⟩
 rcases h.2 with ⟨rfl, h0⟩ | ⟨g, cap, cur, rfl, hg, hh, hc, _⟩
 ·subst h0
  have : es = [] := List.eq_nil_of_length_eq_zero hl
  subst this
  exact ⟨none, 0, rfl, Nat.le_refl _, rdeo_nil w none⟩
 ·refine ⟨_, cap, rfl, hc, g, 0, fun _ => ⟨rfl, (Array.getElem?_eq_some_iff.1 hh).1⟩, fun i hi => cells6_of fun j u hj hu => ?_⟩
  have := h.cells (g := g) rfl (6 * i + j) u ((flat_get es i j hi hj).trans hu)
  rw [add0] at this
  rwa [show 0 + i * 6 + j = 6 * i + j by omega]
theorem take_snocN {l : List Ent} {k : Nat} (h : k < l.length) : l.take (k + 1) = l.take k ++ [l.getD k Ent.none] := by
 rw [List.take_succ_eq_append_getElem h, List.getD_eq_getElem?_getD, List.getElem?_eq_getElem h]
 rfl
end Go.Proofs.YtjpjlfjaapfnkaaGreatDoor
namespace Go.Proofs.YtjpjlfjaapfnkaaGreatDoor
open Go.ChangeShapes Go.WideShapes Go.ChangeAt Go.RowKit
theorem rdn_row {k : IntKind} {w : World} {x : Addr} {len cap : Nat} {zs : List Int} (hlc : len ≤ cap) (hz : zs.length = cap) (hcell : ∀ i, i < zs.length → w.cell? (x.add i) = some (.int k (zs.getD i 0))) :
 RdN k w (some x) (zs.take len) ∧ (zs.take len).length = len := by
 have hl : (zs.take len).length = len := by rw [List.length_take]; omega
 refine ⟨?_, hl⟩
 rcases Nat.eq_zero_or_pos len with h0 | h0
 ·subst h0; rw [List.take_zero]; exact rdn_nil _ _ _
 ·obtain ⟨b, off, rfl, hc⟩ := ints_at hcell (by omega)
  refine ⟨b, off, fun _ => ⟨rfl, lt_of_cell (hc 0 (by omega))⟩, fun i hi => ?_⟩
  have hg : (zs.take len).getD i 0 = zs.getD i 0 := by
   rw [List.getD_eq_getElem?_getD, List.getD_eq_getElem?_getD, List.getElem?_take_of_lt (by omega)]
  rw [hg]; exact hc i (by omega)
theorem wf_u8 {z : Int} (h : (Lit.int .u8 z).wf = true) : 0 ≤ z ∧ z < 256 := by
 have := range_u8 (zs := [z]) (by simpa using h) 0
 simp at this
 omega
theorem bI_of {zs : List Int} (h : ∀ x ∈ zs, 0 ≤ x ∧ x < 256) : ∃ bs : List UInt8, bI bs = zs := by
 refine ⟨zs.map fun z => UInt8.ofNat z.toNat, ?_⟩
 unfold bI
 rw [List.map_map]
 conv => rhs; rw [← List.map_id zs]
 apply List.map_congr_left
 intro a ha
 have := h a ha
 simp only [Function.comp, id, UInt8.toNat_ofNat']
 omega
end Go.Proofs.YtjpjlfjaapfnkaaGreatDoor

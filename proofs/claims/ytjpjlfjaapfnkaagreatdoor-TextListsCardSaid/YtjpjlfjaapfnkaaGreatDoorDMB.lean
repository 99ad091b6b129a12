/-
  errors.Is, errors.As, Code, At; rows of numbers. No conditions beyond those that each theorem states.
-/
import Derived.Test.YtjpjlfjaapfnkaaGreatDoorRows
import Derived.OrdersHeld
import Derived.Deep.RegionHeld
import Derived.Handy
import Derived.WalkKit
import Derived.ProofKit
import Derived.OpenShut
import Derived.Below
import Derived.Laws.AppendOwn
import Derived.Laws.OwnMore
import Derived.Lib.Hide
import Derived.OneCell
import Derived.LaidEql
import Derived.Stop.Asserts
import Derived.RowKitTokens
import Derived.LoopTactic
set_option linter.unusedVariables false
set_option linter.unusedSimpArgs false
namespace Go.Proofs.YtjpjlfjaapfnkaaGreatDoor
section
variable {P : Program} {ops : Array Oper} {Q : Exit → Act → World → Prop} {md : Region.Mode} {S : World → Prop} {need : Nat → Bool}
def wpAnyN (P : Program) (md : Region.Mode) (ops : Array Oper) (Q : Exit → Act → World → Prop) (S : World → Prop) (need : Nat → Bool) : Nat → Array Bool → Act → World → Prop
 | 0, listed, a, w => Region.ready md ops listed = [] ∧ Q .normal a w
 | fuel + 1, listed, a, w =>
  (Region.ready md ops listed = [] → Q .normal a w) ∧
  ∀ i ∈ Region.ready md ops listed, wpOp P ops Q i (fun a' w' => (need i = true → S w') ∧ wpAnyN P md ops Q S need fuel (listed.setIfInBounds i true) a' w') a w
theorem wpAny_of_N : ∀ (fuel : Nat) (listed : Array Bool) (a : Act) (w : World), wpAnyN P md ops Q S need fuel listed a w → wpAny P md ops Q fuel listed a w
 | 0, _, _, _, h => h
 | fuel + 1, _, _, _, h => ⟨h.1, fun i hi => wpOp_mono (fun a' w' h' => wpAny_of_N fuel _ a' w' h'.2) (h.2 i hi)⟩
def closedB (md : Region.Mode) (ops : Array Oper) (listed : Array Bool) : Bool :=
 (List.range ops.size).all fun j => !listed.getD j false || ((ops[j]?).map fun o => o.after.all fun e => !Region.binds md e || listed.getD e.on false).getD true
def Closed (md : Region.Mode) (ops : Array Oper) (listed : Array Bool) : Prop :=
 ∀ j o, ops[j]? = some o → listed.getD j false = true → ∀ e ∈ o.after, Region.binds md e = true → listed.getD e.on false = true
theorem closed_of {listed : Array Bool} (h : closedB md ops listed = true) : Closed md ops listed := fun j o ho hl e he hb => by
 have h1 := List.all_eq_true.1 h j (List.mem_range.2 (Array.getElem?_eq_some_iff.1 ho).1)
 rw [ho] at h1
 simp only [Option.map_some, Option.getD_some, Bool.or_eq_true, Bool.not_eq_true', hl] at h1
 rcases h1 with h1 | h1
 ·cases h1
 ·obtain ⟨k, hk, rfl⟩ := Array.mem_iff_getElem.1 he
  have := Array.all_eq_true.1 h1 k hk
  simpa [hb] using this
theorem Closed.set {listed : Array Bool} (h : Closed md ops listed) {j : Nat} (hr : j ∈ Region.ready md ops listed) : Closed md ops (listed.setIfInBounds j true) := fun k o ho hl e he hb => by
 have hmono : ∀ q, listed.getD q false = true → (listed.setIfInBounds j true).getD q false = true := fun q hq => getD_set_true hq
 by_cases hkj : j = k
 ·subst hkj
  obtain ⟨_, oj, hoj, hall⟩ := mem_ready.1 hr
  rw [ho] at hoj
  cases hoj
  exact hmono _ (hall e he hb)
 ·rw [getD_set_ne false hkj] at hl
  exact hmono _ (h k o ho hl e he hb)
def needFor (md : Region.Mode) (ops : Array Oper) (need : Nat → Bool) (W : List Nat) (i : Nat) : Bool :=
 ((List.range ops.size).all fun j => j == i || need j || W.contains j) &&
 W.all fun j => ((ops[j]?).map fun o => o.after.any fun e => Region.binds md e && (e.on == i || (decide (e.on < j) && W.contains e.on))).getD false
theorem waits_out {W : List Nat} {i : Nat} {listed : Array Bool} (h : needFor md ops need W i = true) (hc : Closed md ops listed) (hi : listed.getD i false = false) : ∀ j, j ∈ W → listed.getD j false = false ∧ ∀ o, ops[j]? = some o → ∃ e ∈ o.after, Region.binds md e = true ∧ listed.getD e.on false = false := by
 have h2 := (Bool.and_eq_true_iff.1 h).2
 intro j
 induction j using Nat.strongRecOn with
 | _ j ih =>
  intro hj
  have h3 := List.all_eq_true.1 h2 j hj
  cases ho : ops[j]? with
  | none => rw [ho] at h3; simp at h3
  | some o =>
   rw [ho] at h3
   simp only [Option.map_some, Option.getD_some] at h3
   obtain ⟨k, hk, hkk⟩ := Array.any_iff_exists.1 h3
   obtain ⟨hk2, hkk⟩ := hkk
   simp only [Bool.and_eq_true, Bool.or_eq_true, beq_iff_eq, decide_eq_true_eq, List.contains_iff_mem] at hkk
   have hout : listed.getD (o.after[k]).on false = false := by
    rcases hkk.2.2 with h4 | ⟨h4, h5⟩
    ·rw [h4]; exact hi
    ·exact (ih _ h4 h5).1
   refine ⟨?_, fun o' ho' => ?_⟩
   ·cases hl : listed.getD j false with
    | false => rfl
    | true =>
     have := hc j o ho hl _ (Array.getElem_mem _) hkk.2.1
     rw [hout] at this; cases this
   ·cases ho'
    exact ⟨_, Array.getElem_mem _, hkk.2.1, hout⟩
theorem needFor_spec {W : List Nat} {i : Nat} {listed : Array Bool} (h : needFor md ops need W i = true) (hc : Closed md ops listed) (hi : listed.getD i false = false) (j : Nat) (hne : j ≠ i) (hr : j ∈ Region.ready md ops listed) : need j = true := by
 obtain ⟨_, oj, hoj, hall⟩ := mem_ready.1 hr
 have hlt : j < ops.size := (Array.getElem?_eq_some_iff.1 hoj).1
 have h1 := List.all_eq_true.1 (Bool.and_eq_true_iff.1 h).1 j (List.mem_range.2 hlt)
 simp only [Bool.or_eq_true, beq_iff_eq, List.contains_iff_mem] at h1
 rcases h1 with (h1 | h1) | h1
 ·exact absurd h1 hne
 ·exact h1
 ·obtain ⟨e, he, hb, hout⟩ := (waits_out h hc hi j h1).2 oj hoj
  have := hall e he hb
  rw [hout] at this; cases this
theorem ready_out {i : Nat} {listed : Array Bool} (hr : i ∈ Region.ready md ops listed) : listed.getD i false = false := by
 have h0 := (mem_ready.1 hr).1
 rcases Nat.lt_or_ge i listed.size with h' | h'
 ·simpa [h'] using h0
 ·simp [Array.getElem?_eq_none h'] at h0
theorem wpAnyN_first {i : Nat} {oi : Oper} {v : Value} (hi : ops[i]? = some oi) (hsel : ∀ (j : Nat) (o : Oper) cs b, ops[j]? = some o → o.op ≠ .select cs b)
 (hQ : ∀ c a w, Q (.panic c) (a.put oi.dst v) w → Q (.panic c) a w) {W : List Nat} (hneed : needFor md ops need W i = true) :
 ∀ (fuel : Nat) (listed : Array Bool) (a : Act) (w : World),
  (∀ j oj, ops[j]? = some oj → j ≠ i → listed.getD j true = false → (∀ e ∈ oj.after, Region.binds md e = true → e.on ≠ i) → oi.apart ops oj = true) → Closed md ops listed →
  i ∈ Region.ready md ops listed → YieldsIf P ops S oi v a → S w →
  wpAnyN P md ops Q S need fuel (listed.setIfInBounds i true) (a.put oi.dst v) w → wpAnyN P md ops Q S need (fuel + 1) listed a w := by
 intro fuel
 induction fuel with
 | zero =>
  intro listed a w _ hc hr hy hS H
  refine ⟨fun h => (by rw [h] at hr; cases hr), fun j hj => ?_⟩
  by_cases hji : j = i
  ·subst hji; exact hy.wpOp hi hS ⟨fun _ => hS, H⟩
  ·have := ready_mono hj hji
   rw [H.1] at this
   cases this
 | succ fuel ih =>
  intro listed a w hfree hc hr hy hS H
  refine ⟨fun h => (by rw [h] at hr; cases hr), fun j hj => ?_⟩
  by_cases hji : j = i
  ·subst hji; exact hy.wpOp hi hS ⟨fun _ => hS, H⟩
  ·have h1 := H.2 j (ready_mono hj hji)
   obtain ⟨hjun, oj, hoj, hall⟩ := mem_ready.1 hj
   have hnot : ∀ e ∈ oj.after, Region.binds md e = true → e.on ≠ i := fun e he hb heq => by
    have h1 := hall e he hb
    have h0 := (mem_ready.1 hr).1
    rw [heq] at h1
    rcases Nat.lt_or_ge i listed.size with h' | h'
    ·simp [h'] at h0 h1; rw [h0] at h1; cases h1
    ·simp [Array.getElem?_eq_none h'] at h1
   have hnj := needFor_spec hneed hc (ready_out hr) j hji hj
   have h2 := wpOp_putIf hoj (hfree j oj hoj hji hjun hnot) (fun cs b => hsel i oi cs b hi) (fun cs b => hsel j oj cs b hoj) hQ hy h1
   have hfree' : ∀ k ok, ops[k]? = some ok → k ≠ i → (listed.setIfInBounds j true).getD k true = false →
       (∀ e ∈ ok.after, Region.binds md e = true → e.on ≠ i) → oi.apart ops ok = true := fun k ok hk hki hun hno => by
    refine hfree k ok hk hki ?_ hno
    by_cases hjk : j = k
    ·subst hjk; exact hjun
    ·rw [getD_set_ne true hjk] at hun; exact hun
   refine wpOp_mono (fun a' w' h3 => ⟨h3.2.1, ih (listed.setIfInBounds j true) a' w' hfree' (hc.set hj) (ready_mono hr (Ne.symm hji)) h3.1 (h3.2.1 hnj) ?_⟩) h2
   rw [Array.setIfInBounds_comm _ _ hji]
   exact h3.2.2
theorem wpAnyN_take (W : List Nat) {i : Nat} {oi : Oper} {v : Value} {fuel : Nat} {listed : Array Bool} {a : Act} {w : World} (hi : ops[i]? = some oi)
 (hs : Region.noSelect ops = true) (hf : Region.free md ops listed i = true) (hr : (Region.ready md ops listed).contains i = true) (hn : needFor md ops need W i = true) (hcl : closedB md ops listed = true)
 (hQ : ∀ c a w, Q (.panic c) (a.put oi.dst v) w → Q (.panic c) a w) (hy : YieldsIf P ops S oi v a) (hS : S w)
 (h : wpAnyN P md ops Q S need fuel (listed.setIfInBounds i true) (a.put oi.dst v) w) : wpAnyN P md ops Q S need (fuel + 1) listed a w :=
 wpAnyN_first hi (Region.noSelect_spec hs) hQ hn fuel listed a w (Region.free_spec hi hf) (closed_of hcl) (by simpa using hr) hy hS h
theorem wpAnyN_done {listed : Array Bool} {a : Act} {w : World} (hr : Region.ready md ops listed = []) (h : Q .normal a w) :
 ∀ fuel, wpAnyN P md ops Q S need fuel listed a w
 | 0 => ⟨hr, h⟩
 | _ + 1 => ⟨fun _ => h, by rw [hr]; simp⟩
theorem wp_region_N {id : Nat} {a : Act} {w : World} (need : Nat → Bool) (hm : P.follows .mixedOrders = true) (hS : S w.drew)
 (h : S w.drew → wpAnyN P .any ops Q S need ops.size (Array.replicate ops.size false) a w.drew) : (Code.region id ops true).wp P Q a w :=
 wp_region_any hm (wpAny_of_N _ _ _ _ (h hS))
def AllReadyN (P : Program) (md : Region.Mode) (ops : Array Oper) (Q : Exit → Act → World → Prop) (S : World → Prop) (need : Nat → Bool) (fuel : Nat) (listed : Array Bool) (a : Act) (w : World) (rs : List Nat) : Prop :=
 ∀ i ∈ rs, wpOp P ops Q i (fun a' w' => (need i = true → S w') ∧ wpAnyN P md ops Q S need fuel (listed.setIfInBounds i true) a' w') a w
theorem AllReadyN.nil {fuel : Nat} {listed : Array Bool} {a : Act} {w : World} : AllReadyN P md ops Q S need fuel listed a w [] := fun _ h => by cases h
theorem AllReadyN.cons {fuel : Nat} {listed : Array Bool} {a : Act} {w : World} {i : Nat} {o : Oper} {rs : List Nat} (ho : ops[i]? = some o)
 (h : ∀ K' : Act → World → Prop, Shut (∀ a w, S w → (S w → wpAnyN P md ops Q S need fuel (listed.setIfInBounds i true) a w) → K' a w) → if Region.wanted o (yielded ops a.tmps) = true then Oper.wp P o a w K' Q else K' (a.put o.dst undef) w)
 (hs : AllReadyN P md ops Q S need fuel listed a w rs) : AllReadyN P md ops Q S need fuel listed a w (i :: rs) := fun j hj => by
 rcases List.mem_cons.1 hj with rfl | hj
 ·exact wpOp_step ho (fun K' hK => h K' (fun a w hS hW => hK a w ⟨fun _ => hS, hW hS⟩))
 ·exact hs j hj
theorem AllReadyN.last {fuel : Nat} {listed : Array Bool} {a : Act} {w : World} {i : Nat} {o : Oper} {rs : List Nat} (ho : ops[i]? = some o) (hn : need i = false)
 (h : ∀ K' : Act → World → Prop, Shut (∀ a w, wpAnyN P md ops Q S need fuel (listed.setIfInBounds i true) a w → K' a w) → if Region.wanted o (yielded ops a.tmps) = true then Oper.wp P o a w K' Q else K' (a.put o.dst undef) w)
 (hs : AllReadyN P md ops Q S need fuel listed a w rs) : AllReadyN P md ops Q S need fuel listed a w (i :: rs) := fun j hj => by
 rcases List.mem_cons.1 hj with rfl | hj
 ·exact wpOp_step ho (fun K' hK => h K' (fun a w hW => hK a w ⟨fun h => (by rw [hn] at h; cases h), hW⟩))
 ·exact hs j hj
theorem wpAnyN_ready {rs : List Nat} {fuel : Nat} {listed : Array Bool} {a : Act} {w : World} (hr : Region.ready md ops listed = rs) (hne : rs ≠ [])
 (h : AllReadyN P md ops Q S need fuel listed a w rs) : wpAnyN P md ops Q S need (fuel + 1) listed a w := ⟨fun h0 => absurd (hr ▸ h0) hne, hr ▸ h⟩
theorem tk0 {i : Nat} {oi : Oper} {v : Value} {fuel : Nat} {listed : Array Bool} {a : Act} {w : World} (hi : ops[i]? = some oi)
 (hb : (Region.noSelect ops && (Region.free md ops listed i && ((Region.ready md ops listed).contains i && (needFor md ops need [] i && closedB md ops listed)))) = true)
 (hQ : ∀ c a w, Q (.panic c) (a.put oi.dst v) w → Q (.panic c) a w) (hy : YieldsIf P ops S oi v a) (hS : S w)
 (h : wpAnyN P md ops Q S need fuel (listed.setIfInBounds i true) (a.put oi.dst v) w) : wpAnyN P md ops Q S need (fuel + 1) listed a w := by
 simp only [Bool.and_eq_true] at hb
 obtain ⟨h1, h2, h3, h4, h5⟩ := hb
 exact wpAnyN_take [] hi h1 h2 h3 h4 h5 hQ hy hS h
theorem tk {i : Nat} {d : Nat} {op : Op} {t : TypeId} {p : String} {af : Array Edge} {g : Option (Nat × Bool)} {v : Value} {fuel : Nat} {listed : Array Bool} {a : Act} {w : World} (hi : ops[i]? = some ⟨some d, op, t, p, af, g⟩)
 (hb : (Region.noSelect ops && (Region.free md ops listed i && ((Region.ready md ops listed).contains i && (needFor md ops need [] i && closedB md ops listed)))) = true)
 (hQ : ∀ c a w, Q (.panic c) (a.put (some d) v) w → Q (.panic c) a w) (hy : YieldsIf P ops S ⟨some d, op, t, p, af, g⟩ v a) (hS : S w)
 (h : wpAnyN P md ops Q S need fuel (listed.setIfInBounds i true) (a.put (some d) v) w) : wpAnyN P md ops Q S need (fuel + 1) listed a w :=
 tk0 hi hb hQ hy hS h
end
end Go.Proofs.YtjpjlfjaapfnkaaGreatDoor
namespace Go.Proofs.YtjpjlfjaapfnkaaGreatDoor
open Go.ChangeShapes Go.WideShapes Go.ChangeAt Go.RowKit
theorem retb {a b : Bool} (h : a = b) : Ending.returned (.bool a) = .returned (.bool b) := by rw [h]
theorem lt_of_cell {w : World} {b o : Nat} {v : Value} (h : w.cell? ⟨b, o, none⟩ = some v) : b < w.heap.size := by
 rcases Nat.lt_or_ge b w.heap.size with h' | h'
 ·exact h'
 ·simp [World.cell?, Array.getElem?_eq_none h'] at h
theorem add0 (g n : Nat) : (⟨g, 0, none⟩ : Addr).add n = ⟨g, n, none⟩ := by
 unfold Addr.add; by_cases h : n = 0 <;> simp [h]
theorem addn (g o n : Nat) : (⟨g, o, none⟩ : Addr).add n = ⟨g, o + n, none⟩ := by
 unfold Addr.add; by_cases h : n = 0 <;> simp [h]
theorem own_below {w w' : World} {B : Nat} {e : TypeId} {s n : Nat} {v : Value} {xs : List Value} (h : w.ownsRow B e s v n xs) (hb : Below w.heap.size w w') : w'.ownsRow B e s v n xs := by
 rcases h.2 with ⟨rfl, h0⟩ | ⟨g, cap, cur, rfl, hg, hh, hc⟩
 ·exact ⟨h.1, .inl ⟨rfl, h0⟩⟩
 ·exact ⟨h.1, .inr ⟨g, cap, cur, rfl, hg, (hb.block g (Array.getElem?_eq_some_iff.1 hh).1).trans hh, hc⟩⟩
theorem own_weaken {w : World} {B B' : Nat} {e : TypeId} {s n : Nat} {v : Value} {xs : List Value} (h : w.ownsRow B e s v n xs) (hB : B' ≤ B) : w.ownsRow B' e s v n xs := by
 rcases h.2 with ⟨rfl, h0⟩ | ⟨g, cap, cur, rfl, hg, hh, hc⟩
 ·exact ⟨h.1, .inl ⟨rfl, h0⟩⟩
 ·exact ⟨h.1, .inr ⟨g, cap, cur, rfl, by omega, hh, hc⟩⟩
theorem info_parts {i0 : Option TypeInfo} {z : Option Value} {s b : Nat} (h : i0.map (fun i => (i.zero, i.size, i.bytes)) = some (z, s, b)) : ∃ i, i0 = some i ∧ i.zero = z ∧ i.size = s ∧ i.bytes = b := by
 obtain ⟨i, hi, he⟩ := Option.map_eq_some_iff.1 h
 simp only [Prod.mk.injEq] at he
 exact ⟨i, hi, he.1, he.2.1, he.2.2⟩
theorem gb_trans {a b c : World} {r : Option Nat} (h : a.grownBy b r) (k : b.grownBy c r) : a.grownBy c r :=
 ⟨k.os.trans h.os, k.tape.trans h.tape, k.output.trans h.output, Nat.le_trans h.size k.size, fun i hi hr => (k.block i (Nat.lt_of_lt_of_le hi h.size) hr).trans (h.block i hi hr)⟩
theorem gb_set {a b : World} {g : Nat} (h : a.grownBy b (some g)) (o : Nat) (u : Value) : a.grownBy (b.setCell ⟨g, o, none⟩ u) (some g) :=
 gb_trans h ⟨rfl, rfl, rfl, by simp [World.setCell], fun i hi hr => Below.heap_setCell _ _ _ _ (fun e => hr (by rw [e]))⟩
theorem gb_alloc {a b : World} {r : Option Nat} (h : a.grownBy b r) (o : Obj) : a.grownBy (b.alloc o) r :=
 gb_trans h (World.grownBy_alloc _ _ _)
theorem gb_below {a b : World} {r : Option Nat} (h : Below a.heap.size a b) : a.grownBy b r := ⟨h.os, h.tape, h.output, h.size, fun k hk _ => h.block k hk⟩
def RdN (k : IntKind) (w : World) (A : Option Addr) (zs : List Int) : Prop :=
 ∃ g off, (0 < zs.length → A = some ⟨g, off, none⟩ ∧ g < w.heap.size) ∧ ∀ i, i < zs.length → w.cell? ⟨g, off + i, none⟩ = some (.int k (zs.getD i 0))
def numV (k : IntKind) (zs : List Int) : List Value := zs.map (Value.int k)
theorem RdN.below {k : IntKind} {w w1 : World} {A : Option Addr} {zs : List Int} (h : RdN k w A zs) (hb : Below w.heap.size w w1) : RdN k w1 A zs := by
 obtain ⟨b, off, hA, hc⟩ := h
 exact ⟨b, off, fun hn => ⟨(hA hn).1, Nat.lt_of_lt_of_le (hA hn).2 hb.size⟩, fun i hi => (hb.cell (p := ⟨b, _, none⟩) (hA (by omega)).2).trans (hc i hi)⟩
theorem rdn_nil (k : IntKind) (w : World) (A : Option Addr) : RdN k w A [] := ⟨0, 0, fun h => by simp at h, fun i h => by simp at h⟩
theorem numV_length (k : IntKind) (zs : List Int) : (numV k zs).length = zs.length := by simp [numV]
theorem numV_append (k : IntKind) (a b : List Int) : numV k (a ++ b) = numV k a ++ numV k b := by simp [numV]
theorem numV_get {k : IntKind} {zs : List Int} {i : Nat} (h : i < zs.length) : (numV k zs)[i]? = some (.int k (zs.getD i 0)) := by
 unfold numV
 rw [List.getElem?_map, List.getD_eq_getElem?_getD, List.getElem?_eq_getElem h]; rfl
theorem rdn_of_own {k : IntKind} {w : World} {B n : Nat} {T : TypeId} {v : Value} {zs : List Int} (h : w.ownsRow B T 1 v n (numV k zs)) :
 zs.length = n ∧ ∃ A cap, v = .slice A n cap ∧ n ≤ cap ∧ cap ≤ maxLen ∧ RdN k w A zs ∧ ∀ g o, A = some ⟨g, o, none⟩ → B ≤ g ∧ g < w.heap.size := by
 have hl : zs.length = n := by have := h.1; rw [numV_length] at this; omega
 rcases h.2 with ⟨rfl, h0⟩ | ⟨g, cap, cur, rfl, hg, hh, hc, hm, _⟩
 ·exact ⟨hl, none, 0, by rw [h0], by omega, by unfold maxLen; omega, ⟨0, 0, fun hn => by omega, fun i hi => by omega⟩, fun g o h => by cases h⟩
 ·have hlt := (Array.getElem?_eq_some_iff.1 hh).1
  refine ⟨hl, _, cap, rfl, hc, hm, ⟨g, 0, fun _ => ⟨rfl, hlt⟩, fun i hi => ?_⟩, fun g' o h => by cases h; exact ⟨hg, hlt⟩⟩
  have := h.cells (g := g) rfl i _ (numV_get hi)
  rw [add0] at this
  rw [Nat.zero_add]; exact this
section
variable {P : Program}
theorem run_append_nums {T E : TypeId} {k : IntKind} {sz : Nat} (hT : P.underlying T = some (.slice E)) (hI : (P.info? E).map (fun i => (i.zero, i.size, i.bytes)) = some (some (.int k 0), 1, sz)) (hsz : 0 < sz)
 (B : Nat) (v : Value) (m : Nat) (xs : List Value) (w : World) (hown : w.ownsRow B E 1 v m xs) (A : Option Addr) (n c : Nat) (zs : List Int) (hl : zs.length = n) (h : RdN k w A zs) (hB : B ≤ w.heap.size) (hk : (m + n) * sz ≤ 140737488355328) :
 ∃ v' w', (Builtin.append_ #[T, T] T #[v, .slice A n c]).run P w = .ok v' w' ∧ w'.ownsRow B E 1 v' (m + n) (xs ++ numV k zs) ∧ w.grownBy w' v.ownBlock := by
 obtain ⟨i0, hi0, hz0, hz1, hz2⟩ := info_parts hI
 obtain ⟨b, off, hA, hc⟩ := h
 have hmn : m + n ≤ 140737488355328 := Nat.le_trans (Nat.le_mul_of_pos_right _ hsz) hk
 cases A with
 | none =>
  have hn : n = 0 := by
   rcases Nat.eq_zero_or_pos n with h | h
   ·exact h
   ·cases (hA (by omega)).1
  subst hn
  have hb : zs = [] := List.eq_nil_of_length_eq_zero hl
  subst hb
  refine ⟨v, w, ?_, by simpa [numV] using hown, World.grownBy.refl w _⟩
  rcases hown.2 with ⟨rfl, rfl⟩ | ⟨g, cap, cur, rfl, _, _, hnc, _⟩
  ·simp [Builtin.append_, run_underlying hT, sizeOf, typeInfo, hi0, Builtin.lenOf, Builtin.firstCells]
  ·simp [Builtin.append_, run_underlying hT, sizeOf, typeInfo, hi0, Builtin.lenOf, Builtin.firstCells, hnc, storeCells]
 | some ad =>
  obtain ⟨v', w', hrun, h2, h3, _⟩ := run_append_own (P := P) w B T T E i0 _ 1 sz hT hi0 hz0 hz1 hz2 rfl (by decide) v m xs hown ad n c (numV k zs) (by rw [numV_length, hl, Nat.mul_one])
   (fun j u hu => by
    have hj : j < zs.length := by
     rcases Nat.lt_or_ge j zs.length with h | h
     ·exact h
     ·rw [List.getElem?_eq_none (by rw [numV_length]; exact h)] at hu; cases hu
    rw [numV_get hj] at hu
    have := (hA (by omega)).1
    cases this
    rw [addn, hc j hj]; exact hu)
   (by simp [numV, Value.oneCell']) (by unfold maxLen; omega) hk hB
  exact ⟨v', w', hrun, h2, h3⟩
theorem wpList_append_nums {T E : TypeId} {k : IntKind} {sz : Nat} {ops : Array Oper} {rest : List Oper} {o : Oper} {a : Act} {Q : Exit → Act → World → Prop} {w : World} (hgd : o.guard = none) (s x : Operand)
 (ho : o.op = .call { callee := .builtin .append, args := #[s, x], argTypes := #[T, T] }) (hty : o.type = T)
 (hT : P.underlying T = some (.slice E)) (hI : (P.info? E).map (fun i => (i.zero, i.size, i.bytes)) = some (some (.int k 0), 1, sz)) (hsz : 0 < sz)
 (B : Nat) (v : Value) (m : Nat) (xs : List Value) (hs : a.eval s = v) (hown : w.ownsRow B E 1 v m xs) (A : Option Addr) (n c : Nat) (zs : List Int) (hx : a.eval x = .slice A n c) (hl : zs.length = n) (h : RdN k w A zs) (hB : B ≤ w.heap.size) (hk : (m + n) * sz ≤ 140737488355328)
 (hc : ∀ v' w', w'.ownsRow B E 1 v' (m + n) (xs ++ numV k zs) → w.grownBy w' v.ownBlock → wpList P ops Q rest (a.put o.dst v') w') : wpList P ops Q (o :: rest) a w := by
 refine wpList_plain hgd fun K hK => ?_
 obtain ⟨v', w', hrun, h2, h3⟩ := run_append_nums hT hI hsz B v m xs w hown A n c zs hl h hB hk
 unfold Oper.wp execOp
 simp only [ho, hty, resolve, invoke, builtin, Sem.run_bind, Sem.run_pure, Result.andThen_ok, List.map_toArray, List.map_cons, List.map_nil, hs, hx, hrun]
 exact hK _ _ (hc v' w' h2 h3)
end
section
variable {P : Program}
end
theorem heap_drew (w : World) (k : Nat) : w.drew.heap[k]? = w.heap[k]? := rfl
theorem heap_push (w : World) (o : Obj) (k : Nat) : (w.alloc o).heap[k]? = if k = w.heap.size then some o else w.heap[k]? := by
 show (w.heap.push o)[k]? = _
 rw [Array.getElem?_push]
theorem cell_keep {w2 W : World} {u : Value} {b o : Nat} (hb : Below w2.heap.size w2 W) (hc : w2.cell? ⟨b, o, none⟩ = some u) : W.cell? ⟨b, o, none⟩ = some u :=
 (hb.cell (p := ⟨b, o, none⟩) (lt_of_cell hc)).trans hc
theorem append_cell {w2 W w7 : World} {v u : Value} {b o : Nat} (hg : W.grownBy w7 v.ownBlock) (hb : Below w2.heap.size w2 W) (hc : w2.cell? ⟨b, o, none⟩ = some u) (hne : v.ownBlock ≠ some b) : w7.cell? ⟨b, o, none⟩ = some u :=
 hg.cell (cell_keep hb hc) (fun e => hne e.symm)
theorem RdN.kept {k : IntKind} {w w1 : World} {A : Option Addr} {zs : List Int} {r : Option Nat} (h : RdN k w A zs) (hg : w.grownBy w1 r) (hr : ∀ g o, A = some ⟨g, o, none⟩ → some g ≠ r) : RdN k w1 A zs := by
 obtain ⟨b, off, hA, hc⟩ := h
 refine ⟨b, off, fun hn => ⟨(hA hn).1, Nat.lt_of_lt_of_le (hA hn).2 hg.size⟩, fun i hi => ?_⟩
 have h1 := hA (by omega)
 exact hg.cell (hc i hi) (hr _ _ h1.1)
theorem rdn_one (k : IntKind) (w : World) (z : Int) (T : TypeId) : RdN k (w.alloc (.cells #[.int k z] T)) (some ⟨w.heap.size, 0, none⟩) [z] :=
 ⟨w.heap.size, 0, fun _ => ⟨rfl, by simp⟩, fun i hi => by
  have : i = 0 := by simp at hi; exact hi
  subst this; simp⟩
end Go.Proofs.YtjpjlfjaapfnkaaGreatDoor
namespace Go.Proofs.YtjpjlfjaapfnkaaGreatDoor
open Go.ChangeShapes Go.WideShapes Go.ChangeAt Go.RowKit Go.Extern.Stop Go.Stop Go.Extern
theorem run_equalIn_iface_int {P : Program} (w : World) (d : Nat) {ti tn : TypeId} {ms : Array (String × TypeId)} {i : TypeInfo} {k : IntKind} (a b : Int)
 (hi : P.underlying ti = some (.interface ms)) (hn : P.underlying tn = some (.int k)) (hinfo : P.info? tn = some i) (hcomp : i.comparable = true) :
 (Op.equalIn (d + 2) ti (.iface tn (.int k a)) (.iface tn (.int k b))).run P w = .ok (a == b) w := by
 simp [Op.equalIn, run_underlying hi, run_underlying hn, typeInfo, hinfo, hcomp]
theorem run_eql_iface_int {P : Program} (w : World) {ti tn : TypeId} {ms : Array (String × TypeId)} {i : TypeInfo} {k : IntKind} (a b : Int)
 (hi : P.underlying ti = some (.interface ms)) (hn : P.underlying tn = some (.int k)) (hinfo : P.info? tn = some i) (hcomp : i.comparable = true) :
 (binOp .eql ti (.iface tn (.int k a)) (.iface tn (.int k b))).run P w = .ok (.bool (a == b)) w := by
 simp only [binOp]
 simp [Op.equal, Op.maxDepth, run_equalIn_iface_int w 9998 a b hi hn hinfo hcomp]
theorem Tryz.isTypeOf (v : Value) (w : World) : (Extern.ReflectliteType.typeOf #[.iface 70 v]).run Tryz.prog w = .ok (.iface 151 (.agg #[.pointer (some ⟨9, 70, none⟩)])) w := by kernel_rfl
theorem Tryz.isComparable (w : World) : ((Extern.ReflectliteType.method fun t => do Extern.Rtype.noPackHeld "Comparable" t; (fun a => Value.bool a.comparable) <$> typeInfo t) #[.agg #[.pointer (some ⟨9, 70, none⟩)]]).run Tryz.prog w = .ok (.bool true) w := by kernel_rfl
theorem Tryz.isComp : (Tryz.prog.info? 70).map (·.comparable) = some true := by kernel_rfl
theorem Tryz.noIsE (v : Value) (xT : TypeId) (w : World) : (Instr.typeAssert (.iface 70 v) xT 153 true).run Tryz.prog w = .ok (.tuple #[.nilIface, .bool false]) w := run_typeAssert_lacksB Tryz.underlying153 (by kernel_rfl) (by kernel_rfl) v xT w
theorem Tryz.noUnwrapE (v : Value) (xT : TypeId) (w : World) : (Instr.typeAssert (.iface 70 v) xT 156 true).run Tryz.prog w = .ok (.tuple #[.nilIface, .bool false]) w := run_typeAssert_lacksB Tryz.underlying156 (by kernel_rfl) (by kernel_rfl) v xT w
theorem Tryz.noUnwrapsE (v : Value) (xT : TypeId) (w : World) : (Instr.typeAssert (.iface 70 v) xT 158 true).run Tryz.prog w = .ok (.tuple #[.nilIface, .bool false]) w := run_typeAssert_lacksB Tryz.underlying158 (by kernel_rfl) (by kernel_rfl) v xT w
set_option maxHeartbeats 400000 in
theorem is_errno (a b : Int) (w : World) :
 Calls Tryz.prog 48 #[.iface 70 (.int .i64 a), .iface 70 (.int .i64 b)] w fun e w' => e = .returned (.bool (a == b)) ∧ w = w' := by
 obtain ⟨i, hi, hcmp⟩ := Option.map_eq_some_iff.1 Tryz.isComp
 have hT := @run_callFunc_extern Tryz.prog 79 _ Extern.ReflectliteType.typeOf Tryz.func79 (by kernel_rfl) (by kernel_rfl) (by kernel_rfl) (by kernel_rfl)
 have hC := @run_callFunc_extern Tryz.prog 183 _ (Extern.ReflectliteType.method fun t => do Extern.Rtype.noPackHeld "Comparable" t; pure (.bool (← typeInfo t).comparable)) Tryz.func183 (by kernel_rfl) (by kernel_rfl) (by kernel_rfl) (by kernel_rfl)
 have tT := Tryz.isTypeOf
 have cT := Tryz.isComparable
 have nE := Tryz.noIsE
 have uE := Tryz.noUnwrapE
 have vE := Tryz.noUnwrapsE
 by_cases hab : a = b
 ·subst hab
  have heq := run_eql_iface_int (P := Tryz.prog) w a a Tryz.underlying28 Tryz.underlying70 hi hcmp
  rw [beq_self_eq_true] at heq ⊢
  go_enter Tryz.func48, Tryz.ntmps48
  go_wp2
  refine wp_loop_rounds 1 ?_
  rw [rounds_succ]
  go_wp2
  go_ret
  exact ⟨rfl, rfl⟩
 ·have hne : (a == b) = false := by simp [hab]
  have heq := run_eql_iface_int (P := Tryz.prog) w a b Tryz.underlying28 Tryz.underlying70 hi hcmp
  rw [hne] at heq ⊢
  go_enter Tryz.func48, Tryz.ntmps48
  go_wp2
  refine wp_loop_rounds 1 ?_
  rw [rounds_succ]
  go_wp2
  go_ret
  exact ⟨rfl, rfl⟩
end Go.Proofs.YtjpjlfjaapfnkaaGreatDoor
namespace Go.Proofs.YtjpjlfjaapfnkaaGreatDoor
open Go.ChangeShapes Go.WideShapes Go.ChangeAt Go.RowKit Go.Extern.Stop Go.Stop Go.Extern
theorem code_nil (w : World) :
 Calls Tryz.prog 15 #[.nilIface] w fun e w' => e = .returned (.int .i64 0) ∧ w = w' := by
 go_enter Tryz.func15, Tryz.ntmps15
 go_wp2
 go_ret
 exact ⟨rfl, rfl⟩
set_option maxHeartbeats 400000 in
theorem code_errno (k : Int) (w : World) (h1 : 1 ≤ k) (h15 : k ≤ 15) :
 Calls Tryz.prog 15 #[.iface 70 (.int .i64 k)] w fun e w' => e = .returned (.int .i64 k) ∧ w = w' := by
 go_enter Tryz.func15, Tryz.ntmps15
 go_wp2
 go_loop [3] (fun i => ∃ n : Int, 1 ≤ n ∧ n ≤ k ∧ i = .int .i64 n) (fun i => (20 - intOf i).toNat)
 case atStart => exact ⟨1, by omega, by omega, rfl⟩
 case round =>
  obtain ⟨n, hn1, hn2, rfl⟩ := hrel
  by_cases hk : n = k
  ·subst hk
   have hb : (n == n) = true := by simp
   go_wp2_with (go_at_call 48; refine (is_errno _ _ _).mono ?_; rintro e w' ⟨rfl, rfl⟩)
   go_ret
   exact ⟨rfl, rfl⟩
  ·have hb : (k == n) = false := by simp; omega
   clear hk
   go_wp2_with (go_at_call 48; refine (is_errno _ _ _).mono ?_; rintro e w' ⟨rfl, rfl⟩)
   all_goals
    go_round
    case rel => exact ⟨n + 1, by omega, by have := (beq_eq_false_iff_ne.1 hb); omega, rfl⟩
    case measure => simp [intOf]; omega
end Go.Proofs.YtjpjlfjaapfnkaaGreatDoor
namespace Go.Proofs.YtjpjlfjaapfnkaaGreatDoor
open Go.ChangeShapes Go.WideShapes Go.ChangeAt Go.RowKit Go.Extern.Stop Go.Stop Go.Extern
theorem as_nil (t : Value) (w : World) :
 Calls Tryz.prog 62 #[.nilIface, t] w fun e w' => e = .returned (.bool false) ∧ w = w' := by
 go_enter Tryz.func62, Tryz.ntmps62
 go_wp2
 go_ret
 exact ⟨rfl, rfl⟩
theorem Tryz.asValueOfT (t : Addr) (w : World) : (ReflectliteValue.unpack (.iface 99 (.pointer (some t)))).run Tryz.prog w
 = .ok (.agg #[.pointer (some ⟨9, 99, none⟩), .pointer (some ⟨w.heap.size, 0, none⟩), .int .u64 150]) (w.alloc (.cells #[.pointer (some t)] 99)) := by kernel_rfl
theorem Tryz.asTypeT (a : Addr) (w : World) : (ReflectliteValue.methodAny (ReflectliteValue.valueError "reflectlite.Value.Type" 0) (fun t _ _ _ => ReflectliteType.toType t) #[.agg #[.pointer (some ⟨9, 99, none⟩), .pointer (some a), .int .u64 150]]).run Tryz.prog w
 = .ok (.iface 151 (.agg #[.pointer (some ⟨9, 99, none⟩)])) w := by kernel_rfl
theorem Tryz.asKindT (w : World) : ((ReflectliteType.abiMethod fun t => (fun a : Nat => Value.int IntKind.u8 (a : Int)) <$> Rtype.kind t) #[.pointer (some ⟨9, 99, none⟩)]).run Tryz.prog w = .ok (.int .u8 22) w := by kernel_rfl
theorem Tryz.asKindF (w : World) : ((ReflectliteType.abiMethod fun t => (fun a : Nat => Value.int IntKind.u8 (a : Int)) <$> Rtype.kind t) #[.pointer (some ⟨9, 97, none⟩)]).run Tryz.prog w = .ok (.int .u8 22) w := by kernel_rfl
theorem rlm (z : Sem Value) (f : TypeId → Addr → Nat → Nat → Sem Value) (v : Value) :
 ReflectliteValue.method z f #[v] = (do match ← ReflectliteValue.parts v with | none => z | some (t, a, fl) => f t a fl (fl % 32)) := rfl
theorem Tryz.asPartsT (a : Addr) (w : World) : (ReflectliteValue.parts (.agg #[.pointer (some ⟨9, 99, none⟩), .pointer (some a), .int .u64 150])).run Tryz.prog w = .ok (some (99, a, 150)) w := by kernel_rfl
theorem Tryz.asIsNilT (a p : Addr) (W : World) (ha : W.cell? a = some (.pointer (some p))) :
 (ReflectliteValue.method (ReflectliteValue.valueError "reflectlite.Value.IsNil" 0) ReflectliteValue.isNil #[.agg #[.pointer (some ⟨9, 99, none⟩), .pointer (some a), .int .u64 150]]).run Tryz.prog W = .ok (.bool false) W := by
 rw [rlm]
 simp only [Sem.run_bind, Tryz.asPartsT, Result.andThen]
 simp [ReflectliteValue.isNil, loadVar, isAgg, underlying, Tryz.underlying99, ha, Result.andThen]
theorem Tryz.asElemT (w : World) : (ReflectliteType.method ReflectliteType.elem #[.agg #[.pointer (some ⟨9, 99, none⟩)]]).run Tryz.prog w = .ok (.iface 151 (.agg #[.pointer (some ⟨9, 97, none⟩)])) w := by kernel_rfl
theorem Tryz.asImplF (w : World) : (ReflectliteType.relation "Implements" ReflectliteType.implements_ #[.agg #[.pointer (some ⟨9, 97, none⟩)], .iface 151 (.agg #[.pointer (some ⟨9, 28, none⟩)])]).run Tryz.prog w = .ok (.bool true) w := by kernel_rfl
theorem Tryz.asTypeOfF (v : Value) (w : World) : (ReflectliteType.typeOf #[.iface 97 v]).run Tryz.prog w = .ok (.iface 151 (.agg #[.pointer (some ⟨9, 97, none⟩)])) w := by kernel_rfl
theorem Tryz.asAssF (w : World) : (ReflectliteType.relation "AssignableTo" ReflectliteType.assignableTo #[.agg #[.pointer (some ⟨9, 97, none⟩)], .iface 151 (.agg #[.pointer (some ⟨9, 97, none⟩)])]).run Tryz.prog w = .ok (.bool true) w := by kernel_rfl
theorem Tryz.asAssE (w : World) : (ReflectliteType.relation "AssignableTo" ReflectliteType.assignableTo #[.agg #[.pointer (some ⟨9, 70, none⟩)], .iface 151 (.agg #[.pointer (some ⟨9, 97, none⟩)])]).run Tryz.prog w = .ok (.bool false) w := by kernel_rfl
theorem Tryz.asValueOfF (e : Addr) (w : World) : (ReflectliteValue.unpack (.iface 97 (.pointer (some e)))).run Tryz.prog w
 = .ok (.agg #[.pointer (some ⟨9, 97, none⟩), .pointer (some ⟨w.heap.size, 0, none⟩), .int .u64 150]) (w.alloc (.cells #[.pointer (some e)] 97)) := by kernel_rfl
theorem Tryz.asElemOfT (w : World) : (Rtype.elem? 99).run Tryz.prog w = .ok (some 97) w := by kernel_rfl
theorem Tryz.asMkF (p : Addr) (w : World) : (ReflectliteValue.mk 97 p ReflectliteValue.flagAddr).run Tryz.prog w = .ok (.agg #[.pointer (some ⟨9, 97, none⟩), .pointer (some p), .int .u64 406]) w := by kernel_rfl
theorem Tryz.asElemV (a p : Addr) (W : World) (ha : W.cell? a = some (.pointer (some p))) :
 (ReflectliteValue.method (ReflectliteValue.valueError "reflectlite.Value.Elem" 0) ReflectliteValue.elem #[.agg #[.pointer (some ⟨9, 99, none⟩), .pointer (some a), .int .u64 150]]).run Tryz.prog W
  = .ok (.agg #[.pointer (some ⟨9, 97, none⟩), .pointer (some p), .int .u64 406]) W := by
 rw [rlm]
 simp only [Sem.run_bind, Tryz.asPartsT, Result.andThen]
 simp [ReflectliteValue.elem, loadVar, isAgg, underlying, Tryz.underlying99, ha, Result.andThen, Tryz.asElemOfT, Tryz.asMkF]
theorem rls (v x : Value) : ReflectliteValue.set #[v, x] = (do
 let (some (dst, a, fl), some (src, b, _)) := (← ReflectliteValue.parts v, ← ReflectliteValue.parts x)
  | unsupported (.noEntry "extern/(internal/reflectlite.Value).Set.zeroValue")
 if fl / ReflectliteValue.flagAddr % 2 == 0 then unsupported (.noEntry "extern/(internal/reflectlite.Value).Set.unaddressable")
 let val ← loadVar src b
 if ← Rtype.directlyAssignable dst src then storeVar dst a val
 else if ← Rtype.implements dst src then
  if (← Rtype.kind src) == 20 then
   match val with
   | .nilIface => unsupported (.noEntry "extern/reflectlite: a nil value of one interface type handed on as a value of another")
   | _ => storeVar dst a val
  else storeVar dst a (.iface src val)
 else panicString ("reflectlite.Set: value of type " ++ (← Rtype.spelt src) ++ " is not assignable to type " ++ (← Rtype.spelt dst))
 pure (.tuple #[])) := rfl
theorem Tryz.asPartsA (a : Addr) (w : World) : (ReflectliteValue.parts (.agg #[.pointer (some ⟨9, 97, none⟩), .pointer (some a), .int .u64 406])).run Tryz.prog w = .ok (some (97, a, 406)) w := by kernel_rfl
theorem Tryz.asPartsF (a : Addr) (w : World) : (ReflectliteValue.parts (.agg #[.pointer (some ⟨9, 97, none⟩), .pointer (some a), .int .u64 150])).run Tryz.prog w = .ok (some (97, a, 150)) w := by kernel_rfl
theorem Tryz.asDirect (w : World) : (Rtype.directlyAssignable 97 97).run Tryz.prog w = .ok true w := by kernel_rfl
theorem Tryz.asSet (ta b e : Addr) (old : Value) (W : World) (hb : W.cell? b = some (.pointer (some e))) (ht : W.cell? ta = some old) (hf : W.frozen? ta = false) :
 (ReflectliteValue.set #[.agg #[.pointer (some ⟨9, 97, none⟩), .pointer (some ta), .int .u64 406], .agg #[.pointer (some ⟨9, 97, none⟩), .pointer (some b), .int .u64 150]]).run Tryz.prog W
  = .ok (.tuple #[]) (W.setCell ta (.pointer (some e))) := by
 rw [rls]
 simp only [Sem.run_bind, Tryz.asPartsA, Tryz.asPartsF, Result.andThen]
 simp [ReflectliteValue.flagAddr, loadVar, isAgg, underlying, Tryz.underlying97, hb, Result.andThen, Tryz.asDirect, storeVar, Value.cells, storeCells, Addr.add]
 rw [run_store Tryz.prog W ta _ _ (by rfl)]
 simp [ht, hf]
theorem Tryz.asNoE (v : Value) (xT : TypeId) (w : World) : (Instr.typeAssert (.iface 70 v) xT 165 true).run Tryz.prog w = .ok (.tuple #[.nilIface, .bool false]) w := run_typeAssert_lacksB Tryz.underlying165 (by kernel_rfl) (by kernel_rfl) v xT w
def ErrT (w : World) : Prop := w.cell? ⟨0, 0, none⟩ = some (.iface 151 (.agg #[.pointer (some ⟨9, 28, none⟩)]))
theorem ErrT.lt {w : World} (h : ErrT w) : 0 < w.heap.size := by
 unfold ErrT at h
 rcases Nat.lt_or_ge 0 w.heap.size with h' | h'
 ·exact h'
 ·simp [World.cell?, Array.getElem?_eq_none h'] at h
theorem ErrT.below {w w1 : World} (h : ErrT w) (hb : Below w.heap.size w w1) : ErrT w1 := (hb.cell (p := ⟨0, 0, none⟩) h.lt).trans h
set_option maxHeartbeats 4000000 in
theorem as_fault (e t : Addr) (old : Value) (w : World) (hg : ErrT w) (ht0 : w.cell? t = some old) (hf0 : w.frozen? t = false) :
 Calls Tryz.prog 62 #[.iface 97 (.pointer (some e)), .iface 99 (.pointer (some t))] w fun ev w' => ev = .returned (.bool true) ∧ ((((w.alloc (.cells #[.pointer (some t)] 99)).alloc (.cells #[.pointer (some ⟨9, 99, none⟩), .pointer (some ⟨w.heap.size, 0, none⟩), .int .u64 150] 133)).alloc (.cells #[.pointer (some ⟨9, 99, none⟩), .pointer (some ⟨w.heap.size, 0, none⟩), .int .u64 150] 133)).alloc (.cells #[.pointer (some e)] 97)).setCell t (.pointer (some e)) = w' := by
 have hlt := hg.lt
 have h6 := @run_callFunc_extern Tryz.prog 85 _ (fun args => ReflectliteValue.unpack (args.getD 0 (.tuple #[]))) Tryz.func85 (by kernel_rfl) (by kernel_rfl) (by kernel_rfl) (by kernel_rfl)
 have h7 := @run_callFunc_extern Tryz.prog 86 _ (ReflectliteValue.methodAny (ReflectliteValue.valueError "reflectlite.Value.Type" 0) (fun t _ _ _ => ReflectliteType.toType t)) Tryz.func86 (by kernel_rfl) (by kernel_rfl) (by kernel_rfl) (by kernel_rfl)
 have h8 := @run_callFunc_extern Tryz.prog 87 _ (ReflectliteValue.method (ReflectliteValue.valueError "reflectlite.Value.IsNil" 0) ReflectliteValue.isNil) Tryz.func87 (by kernel_rfl) (by kernel_rfl) (by kernel_rfl) (by kernel_rfl)
 have h27 := @run_callFunc_extern Tryz.prog 171 _ (ReflectliteType.abiMethod fun t => do pure (.int .u8 (← Rtype.kind t))) Tryz.func171 (by kernel_rfl) (by kernel_rfl) (by kernel_rfl) (by kernel_rfl)
 have h37 := @run_callFunc_extern Tryz.prog 184 _ (ReflectliteType.method ReflectliteType.elem) Tryz.func184 (by kernel_rfl) (by kernel_rfl) (by kernel_rfl) (by kernel_rfl)
 have h38 := @run_callFunc_extern Tryz.prog 185 _ (ReflectliteType.relation "Implements" ReflectliteType.implements_) Tryz.func185 (by kernel_rfl) (by kernel_rfl) (by kernel_rfl) (by kernel_rfl)
 have h10 := @run_callFunc_extern Tryz.prog 79 _ ReflectliteType.typeOf Tryz.func79 (by kernel_rfl) (by kernel_rfl) (by kernel_rfl) (by kernel_rfl)
 have h35 := @run_callFunc_extern Tryz.prog 182 _ (ReflectliteType.relation "AssignableTo" ReflectliteType.assignableTo) Tryz.func182 (by kernel_rfl) (by kernel_rfl) (by kernel_rfl) (by kernel_rfl)
 have h11 := @run_callFunc_extern Tryz.prog 99 _ (ReflectliteValue.method (ReflectliteValue.valueError "reflectlite.Value.Elem" 0) ReflectliteValue.elem) Tryz.func99 (by kernel_rfl) (by kernel_rfl) (by kernel_rfl) (by kernel_rfl)
 have h12 := @run_callFunc_extern Tryz.prog 100 _ ReflectliteValue.set Tryz.func100 (by kernel_rfl) (by kernel_rfl) (by kernel_rfl) (by kernel_rfl)
 have tO := Tryz.asTypeOfF
 have a25 := Tryz.asAssF
 have v25 := Tryz.asValueOfF
 have f6 := Tryz.asValueOfT
 have f7 := Tryz.asTypeT
 have k27 := Tryz.asKindT
 have k25 := Tryz.asKindF
 have e27 := Tryz.asElemT
 have i25 := Tryz.asImplF
 have n8 := Tryz.asIsNilT ⟨w.heap.size, 0, none⟩ t ((w.alloc (.cells #[.pointer (some t)] 99)).alloc (.cells #[.pointer (some ⟨9, 99, none⟩), .pointer (some ⟨w.heap.size, 0, none⟩), .int .u64 150] 133)) (by simp)
 have hg2 : ((w.alloc (.cells #[.pointer (some t)] 99)).alloc (.cells #[.pointer (some ⟨9, 99, none⟩), .pointer (some ⟨w.heap.size, 0, none⟩), .int .u64 150] 133)).cell? ⟨0, 0, none⟩ = some (.iface 151 (.agg #[.pointer (some ⟨9, 28, none⟩)])) := by
  rw [World.cell?_alloc_lt _ _ ⟨0, 0, none⟩ (by first | (simp; done) | (simp; omega)), World.cell?_alloc_lt _ _ ⟨0, 0, none⟩ hlt]; exact hg
 have htl : t.block < w.heap.size := by
  rcases Nat.lt_or_ge t.block w.heap.size with h | h
  ·exact h
  ·simp [World.cell?, Array.getElem?_eq_none h] at ht0
 have el := Tryz.asElemV ⟨w.heap.size, 0, none⟩ t (((w.alloc (.cells #[.pointer (some t)] 99)).alloc (.cells #[.pointer (some ⟨9, 99, none⟩), .pointer (some ⟨w.heap.size, 0, none⟩), .int .u64 150] 133)).alloc (.cells #[.pointer (some ⟨9, 99, none⟩), .pointer (some ⟨w.heap.size, 0, none⟩), .int .u64 150] 133)) (by rw [World.cell?_alloc_lt _ _ ⟨w.heap.size, 0, none⟩ (by simp; omega)]; simp)
 have st := Tryz.asSet t ⟨w.heap.size + 1 + 1 + 1, 0, none⟩ e old ((((w.alloc (.cells #[.pointer (some t)] 99)).alloc (.cells #[.pointer (some ⟨9, 99, none⟩), .pointer (some ⟨w.heap.size, 0, none⟩), .int .u64 150] 133)).alloc (.cells #[.pointer (some ⟨9, 99, none⟩), .pointer (some ⟨w.heap.size, 0, none⟩), .int .u64 150] 133)).alloc (.cells #[.pointer (some e)] 97))
  (by rw [World.cell?_alloc_at _ _ _ _ (by simp)]; rfl)
  (by rw [World.cell?_alloc_lt _ _ t (by simp; omega), World.cell?_alloc_lt _ _ t (by simp; omega), World.cell?_alloc_lt _ _ t (by simp; omega), World.cell?_alloc_lt _ _ t htl]; exact ht0)
  (by rw [World.frozen?_alloc_old _ _ t (by simp; omega), World.frozen?_alloc_old _ _ t (by simp; omega), World.frozen?_alloc_old _ _ t (by simp; omega), World.frozen?_alloc_old _ _ t (Nat.ne_of_lt htl)]; exact hf0)
 go_enter Tryz.func62, Tryz.ntmps62
 go_wp2
 refine wp_loop_rounds 1 ?_
 rw [rounds_succ]
 go_wp2
 go_ret
 exact ⟨rfl, rfl⟩
set_option maxHeartbeats 4000000 in
theorem as_errno (k : Int) (t : Addr) (w : World) (hg : ErrT w) :
 Calls Tryz.prog 62 #[.iface 70 (.int .i64 k), .iface 99 (.pointer (some t))] w fun ev w' => ev = .returned (.bool false) ∧ Below w.heap.size w w' := by
 have hlt := hg.lt
 have h6 := @run_callFunc_extern Tryz.prog 85 _ (fun args => ReflectliteValue.unpack (args.getD 0 (.tuple #[]))) Tryz.func85 (by kernel_rfl) (by kernel_rfl) (by kernel_rfl) (by kernel_rfl)
 have h7 := @run_callFunc_extern Tryz.prog 86 _ (ReflectliteValue.methodAny (ReflectliteValue.valueError "reflectlite.Value.Type" 0) (fun t _ _ _ => ReflectliteType.toType t)) Tryz.func86 (by kernel_rfl) (by kernel_rfl) (by kernel_rfl) (by kernel_rfl)
 have h8 := @run_callFunc_extern Tryz.prog 87 _ (ReflectliteValue.method (ReflectliteValue.valueError "reflectlite.Value.IsNil" 0) ReflectliteValue.isNil) Tryz.func87 (by kernel_rfl) (by kernel_rfl) (by kernel_rfl) (by kernel_rfl)
 have h27 := @run_callFunc_extern Tryz.prog 171 _ (ReflectliteType.abiMethod fun t => do pure (.int .u8 (← Rtype.kind t))) Tryz.func171 (by kernel_rfl) (by kernel_rfl) (by kernel_rfl) (by kernel_rfl)
 have h37 := @run_callFunc_extern Tryz.prog 184 _ (ReflectliteType.method ReflectliteType.elem) Tryz.func184 (by kernel_rfl) (by kernel_rfl) (by kernel_rfl) (by kernel_rfl)
 have h38 := @run_callFunc_extern Tryz.prog 185 _ (ReflectliteType.relation "Implements" ReflectliteType.implements_) Tryz.func185 (by kernel_rfl) (by kernel_rfl) (by kernel_rfl) (by kernel_rfl)
 have h10 := @run_callFunc_extern Tryz.prog 79 _ ReflectliteType.typeOf Tryz.func79 (by kernel_rfl) (by kernel_rfl) (by kernel_rfl) (by kernel_rfl)
 have h35 := @run_callFunc_extern Tryz.prog 182 _ (ReflectliteType.relation "AssignableTo" ReflectliteType.assignableTo) Tryz.func182 (by kernel_rfl) (by kernel_rfl) (by kernel_rfl) (by kernel_rfl)
 have tO := Tryz.isTypeOf
 have a25 := Tryz.asAssE
 have f6 := Tryz.asValueOfT
 have f7 := Tryz.asTypeT
 have k27 := Tryz.asKindT
 have k25 := Tryz.asKindF
 have e27 := Tryz.asElemT
 have i25 := Tryz.asImplF
 have nA := Tryz.asNoE
 have uE := Tryz.noUnwrapE
 have vE := Tryz.noUnwrapsE
 have n8 := Tryz.asIsNilT ⟨w.heap.size, 0, none⟩ t ((w.alloc (.cells #[.pointer (some t)] 99)).alloc (.cells #[.pointer (some ⟨9, 99, none⟩), .pointer (some ⟨w.heap.size, 0, none⟩), .int .u64 150] 133)) (by simp)
 have hg2 : ((w.alloc (.cells #[.pointer (some t)] 99)).alloc (.cells #[.pointer (some ⟨9, 99, none⟩), .pointer (some ⟨w.heap.size, 0, none⟩), .int .u64 150] 133)).cell? ⟨0, 0, none⟩ = some (.iface 151 (.agg #[.pointer (some ⟨9, 28, none⟩)])) := by
  rw [World.cell?_alloc_lt _ _ ⟨0, 0, none⟩ (by first | (simp; done) | (simp; omega)), World.cell?_alloc_lt _ _ ⟨0, 0, none⟩ hlt]; exact hg
 go_enter Tryz.func62, Tryz.ntmps62
 go_wp2
 refine wp_loop_rounds 1 ?_
 rw [rounds_succ]
 go_wp2
 go_ret
 exact ⟨rfl, by go_grown⟩
end Go.Proofs.YtjpjlfjaapfnkaaGreatDoor
namespace Go.Proofs.YtjpjlfjaapfnkaaGreatDoor
open Go.ChangeShapes Go.WideShapes Go.ChangeAt Go.RowKit Go.Extern.Stop Go.Stop Go.Extern
theorem Tryz.noIsF (v : Value) (xT : TypeId) (w : World) : (Instr.typeAssert (.iface 97 v) xT 153 true).run Tryz.prog w = .ok (.tuple #[.nilIface, .bool false]) w := run_typeAssert_lacksB Tryz.underlying153 (by kernel_rfl) (by kernel_rfl) v xT w
theorem Tryz.unwrapF (v : Value) (xT : TypeId) (w : World) : (Instr.typeAssert (.iface 97 v) xT 156 true).run Tryz.prog w = .ok (.tuple #[.iface 97 v, .bool true]) w := run_typeAssert_hasB Tryz.underlying156 (by kernel_rfl) v xT w
set_option maxHeartbeats 1000000 in
theorem unwrap_any (b : Nat) (v : Value) (w : World) (h : w.cell? ⟨b, 1, none⟩ = some v) :
 Calls Tryz.prog 176 #[.pointer (some ⟨b, 0, none⟩)] w fun e w' => e = .returned v ∧ w = w' := by
 go_enter Tryz.func176, Tryz.ntmps176
 go_wp2
 go_ret
 exact ⟨rfl, rfl⟩
set_option maxHeartbeats 4000000 in
theorem is_fault (bk : Nat) (a b : Int) (w : World) (hc : w.cell? ⟨bk, 1, none⟩ = some (.iface 70 (.int .i64 a))) :
 Calls Tryz.prog 48 #[.iface 97 (.pointer (some ⟨bk, 0, none⟩)), .iface 70 (.int .i64 b)] w fun e w' => e = .returned (.bool (a == b)) ∧ w = w' := by
 obtain ⟨i, hi, hcmp⟩ := Option.map_eq_some_iff.1 Tryz.isComp
 have hT := @run_callFunc_extern Tryz.prog 79 _ Extern.ReflectliteType.typeOf Tryz.func79 (by kernel_rfl) (by kernel_rfl) (by kernel_rfl) (by kernel_rfl)
 have hC := @run_callFunc_extern Tryz.prog 183 _ (Extern.ReflectliteType.method fun t => do Extern.Rtype.noPackHeld "Comparable" t; pure (.bool (← typeInfo t).comparable)) Tryz.func183 (by kernel_rfl) (by kernel_rfl) (by kernel_rfl) (by kernel_rfl)
 have tT := Tryz.isTypeOf
 have cT := Tryz.isComparable
 have nE := Tryz.noIsE
 have uE := Tryz.noUnwrapE
 have vE := Tryz.noUnwrapsE
 have nF := Tryz.noIsF
 have uF := Tryz.unwrapF
 have hne2 := fun w => run_eql_iface_types (P := Tryz.prog) 97 70 (.pointer (some ⟨bk, 0, none⟩)) (.int .i64 b) Tryz.underlying28 (by decide) w
 by_cases hab : a = b
 ·subst hab
  have heq := run_eql_iface_int (P := Tryz.prog) w a a Tryz.underlying28 Tryz.underlying70 hi hcmp
  rw [beq_self_eq_true] at heq ⊢
  go_enter Tryz.func48, Tryz.ntmps48
  go_wp2
  refine wp_loop_rounds 2 ?_
  rw [rounds_succ]
  go_wp2_with (go_at_call 176; refine (unwrap_any bk _ w hc).mono ?_; rintro e w' ⟨rfl, rfl⟩)
  rw [rounds_succ]
  go_wp2
  go_ret
  exact ⟨rfl, rfl⟩
 ·have hne : (a == b) = false := by simp [hab]
  have heq := run_eql_iface_int (P := Tryz.prog) w a b Tryz.underlying28 Tryz.underlying70 hi hcmp
  rw [hne] at heq ⊢
  go_enter Tryz.func48, Tryz.ntmps48
  go_wp2
  refine wp_loop_rounds 2 ?_
  rw [rounds_succ]
  go_wp2_with (go_at_call 176; refine (unwrap_any bk _ w hc).mono ?_; rintro e w' ⟨rfl, rfl⟩)
  rw [rounds_succ]
  go_wp2
  go_ret
  exact ⟨rfl, rfl⟩
set_option maxHeartbeats 400000 in
theorem code_fault (bk : Nat) (k : Int) (w : World) (hc : w.cell? ⟨bk, 1, none⟩ = some (.iface 70 (.int .i64 k))) (h1 : 1 ≤ k) (h15 : k ≤ 15) :
 Calls Tryz.prog 15 #[.iface 97 (.pointer (some ⟨bk, 0, none⟩))] w fun e w' => e = .returned (.int .i64 k) ∧ w = w' := by
 go_enter Tryz.func15, Tryz.ntmps15
 go_wp2
 go_loop [3] (fun i => ∃ n : Int, 1 ≤ n ∧ n ≤ k ∧ i = .int .i64 n) (fun i => (20 - intOf i).toNat)
 case atStart => exact ⟨1, by omega, by omega, rfl⟩
 case round =>
  obtain ⟨n, hn1, hn2, rfl⟩ := hrel
  by_cases hk : n = k
  ·subst hk
   have hb : (n == n) = true := by simp
   go_wp2_with (go_at_call 48; refine (is_fault bk _ _ _ hc).mono ?_; rintro e w' ⟨rfl, rfl⟩)
   go_ret
   exact ⟨rfl, rfl⟩
  ·have hb : (k == n) = false := by simp; omega
   clear hk
   go_wp2_with (go_at_call 48; refine (is_fault bk _ _ _ hc).mono ?_; rintro e w' ⟨rfl, rfl⟩)
   all_goals
    go_round
    case rel => exact ⟨n + 1, by omega, by have := (beq_eq_false_iff_ne.1 hb); omega, rfl⟩
    case measure => simp [intOf]; omega
def ErrIs (w : World) (v : Value) (c a : Int) : Prop :=
 (v = .nilIface ∧ c = 0 ∧ a = -1) ∨ (v = .iface 70 (.int .i64 c) ∧ 1 ≤ c ∧ c ≤ 15 ∧ a = -1) ∨
 ∃ b, v = .iface 97 (.pointer (some ⟨b, 0, none⟩)) ∧ 1 ≤ c ∧ c ≤ 15 ∧ w.cell? ⟨b, 0, none⟩ = some (.int .i64 a) ∧ w.cell? ⟨b, 1, none⟩ = some (.iface 70 (.int .i64 c))
theorem cell_lt {w : World} {b o : Nat} {v : Value} (h : w.cell? ⟨b, o, none⟩ = some v) : b < w.heap.size := by
 rcases Nat.lt_or_ge b w.heap.size with h' | h'
 ·exact h'
 ·simp [World.cell?, Array.getElem?_eq_none h'] at h
theorem ErrIs.below {w w1 : World} {v : Value} {c a : Int} (h : ErrIs w v c a) (hb : Below w.heap.size w w1) : ErrIs w1 v c a := by
 rcases h with h | h | ⟨b, h, h1, h2, h3, h4⟩
 ·exact .inl h
 ·exact .inr (.inl h)
 ·exact .inr (.inr ⟨b, h, h1, h2, (hb.cell (p := ⟨b, _, none⟩) (cell_lt h3)).trans h3, (hb.cell (p := ⟨b, _, none⟩) (cell_lt h4)).trans h4⟩)
theorem code_err (v : Value) (c a : Int) (w : World) (h : ErrIs w v c a) :
 Calls Tryz.prog 15 #[v] w fun e w' => e = .returned (.int .i64 c) ∧ w = w' := by
 rcases h with ⟨rfl, rfl, _⟩ | ⟨rfl, h1, h2, _⟩ | ⟨b, rfl, h1, h2, h3, h4⟩
 ·exact code_nil w
 ·exact code_errno c w h1 h2
 ·exact code_fault b c w h4 h1 h2
set_option maxHeartbeats 1000000 in
theorem at_err (v : Value) (c a : Int) (w : World) (h : ErrIs w v c a) (hg : ErrT w) :
 Calls Tryz.prog 21 #[v] w fun e w' => e = .returned (.int .i64 a) ∧ Below w.heap.size w w' := by
 have hbA : Below w.heap.size w (w.alloc (.cells #[.pointer none] 97)) := (Below.refl _ _).alloc (Nat.le_refl _) _
 have hgA := hg.below hbA
 have hsA : (w.alloc (.cells #[.pointer none] 97)).heap.size = w.heap.size + 1 := by simp
 rcases h with ⟨rfl, _, rfl⟩ | ⟨rfl, h1, h2, rfl⟩ | ⟨b, rfl, h1, h2, h3, h4⟩
 ·go_enter Tryz.func21, Tryz.ntmps21
  go_wp2_with fail
  refine (as_nil _ _).mono ?_
  rintro e w' ⟨rfl, rfl⟩
  go_wp2
  go_ret
  exact ⟨rfl, hbA⟩
 ·go_enter Tryz.func21, Tryz.ntmps21
  go_wp2_with fail
  refine (as_errno c _ _ hgA).mono ?_
  rintro e w' ⟨rfl, hb2⟩
  go_wp2
  go_ret
  exact ⟨rfl, hbA.trans (hb2.mono (by omega))⟩
 ·have hb3 := cell_lt h3
  have h5 := (hbA.cell (p := ⟨b, _, none⟩) hb3).trans h3
  have hne : b ≠ w.heap.size := by omega
  go_enter Tryz.func21, Tryz.ntmps21
  go_wp2_with fail
  refine (as_fault ⟨b, 0, none⟩ ⟨w.heap.size, 0, none⟩ (.pointer none) _ hgA (by simp) (by simp)).mono ?_
  rintro e w' ⟨rfl, hw'⟩
  have hb' : Below w.heap.size w w' := by rw [← hw']; go_grown
  have c1 : w'.cell? ⟨w.heap.size, 0, none⟩ = some (.pointer (some ⟨b, 0, none⟩)) := by
   rw [← hw']
   refine World.cell?_setCell_same (w := _) (u := .pointer none) (h := ?_) ..
   have e0 : ∀ (W : World) (o : Obj) (v : Value), W.cell? ⟨w.heap.size, 0, none⟩ = some v → (W.alloc o).cell? ⟨w.heap.size, 0, none⟩ = some v := fun W o v h => (World.cell?_alloc_lt _ _ ⟨w.heap.size, 0, none⟩ (cell_lt h)).trans h
   exact e0 _ _ _ (e0 _ _ _ (e0 _ _ _ (e0 _ _ _ (by simp))))
  have c2 := (hb'.cell (p := ⟨b, _, none⟩) hb3).trans h3
  clear hw' h5
  go_wp2
  go_ret
  exact ⟨rfl, hb'⟩
end Go.Proofs.YtjpjlfjaapfnkaaGreatDoor

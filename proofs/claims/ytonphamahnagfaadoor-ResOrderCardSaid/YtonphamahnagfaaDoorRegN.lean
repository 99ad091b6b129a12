/-
  A region that draws its order: a condition on the worlds that is held behind some of its operations only (behind the others nothing that comes reads any more). No conditions.
-/
import Derived.OrdersHeld
import Derived.Deep.RegionHeld
import Derived.Handy
namespace Go.Proofs.YtonphamahnagfaaDoor

section
variable {P : Program} {ops : Array Oper} {Q : Exit → Act → World → Prop} {md : Region.Mode} {S : World → Prop} {need : Nat → Bool}

/-- whatever order is picked from here on; S holds behind every operation that needs it -/
def wpAnyN (P : Program) (md : Region.Mode) (ops : Array Oper) (Q : Exit → Act → World → Prop) (S : World → Prop) (need : Nat → Bool) : Nat → Array Bool → Act → World → Prop
  | 0, listed, a, w => Region.ready md ops listed = [] ∧ Q .normal a w
  | fuel + 1, listed, a, w =>
    (Region.ready md ops listed = [] → Q .normal a w) ∧
    ∀ i ∈ Region.ready md ops listed, wpOp P ops Q i (fun a' w' => (need i = true → S w') ∧ wpAnyN P md ops Q S need fuel (listed.setIfInBounds i true) a' w') a w

theorem wpAny_of_N : ∀ (fuel : Nat) (listed : Array Bool) (a : Act) (w : World), wpAnyN P md ops Q S need fuel listed a w → wpAny P md ops Q fuel listed a w
  | 0, _, _, _, h => h
  | fuel + 1, _, _, _, h => ⟨h.1, fun i hi => wpOp_mono (fun a' w' h' => wpAny_of_N fuel _ a' w' h'.2) (h.2 i hi)⟩

/-- what has come, all that it waits for has come -/
def closedB (md : Region.Mode) (ops : Array Oper) (listed : Array Bool) : Bool :=
  (List.range ops.size).all fun j => !listed.getD j false || ((ops[j]?).map fun o => o.after.all fun e => !Region.binds md e || listed.getD e.on false).getD true
def Closed (md : Region.Mode) (ops : Array Oper) (listed : Array Bool) : Prop :=
  ∀ j o, ops[j]? = some o → listed.getD j false = true → ∀ e ∈ o.after, Region.binds md e = true → listed.getD e.on false = true
theorem closed_of {listed : Array Bool} (h : closedB md ops listed = true) : Closed md ops listed := fun j o ho hl e he hb => by
  have h1 := List.all_eq_true.1 h j (List.mem_range.2 (Array.getElem?_eq_some_iff.1 ho).1)
  rw [ho] at h1
  simp only [Option.map_some, Option.getD_some, Bool.or_eq_true, Bool.not_eq_true', hl] at h1
  rcases h1 with h1 | h1
  · cases h1
  · obtain ⟨k, hk, rfl⟩ := Array.mem_iff_getElem.1 he
    have := Array.all_eq_true.1 h1 k hk
    simpa [hb] using this
theorem Closed.set {listed : Array Bool} (h : Closed md ops listed) {j : Nat} (hr : j ∈ Region.ready md ops listed) : Closed md ops (listed.setIfInBounds j true) := fun k o ho hl e he hb => by
  have hmono : ∀ q, listed.getD q false = true → (listed.setIfInBounds j true).getD q false = true := fun q hq => getD_set_true hq
  by_cases hkj : j = k
  · subst hkj
    obtain ⟨_, oj, hoj, hall⟩ := mem_ready.1 hr
    rw [ho] at hoj
    cases hoj
    exact hmono _ (hall e he hb)
  · rw [getD_set_ne false hkj] at hl
    exact hmono _ (h k o ho hl e he hb)

/-- those in W wait for i, through each other too; behind all others S holds -/
def needFor (md : Region.Mode) (ops : Array Oper) (need : Nat → Bool) (W : List Nat) (i : Nat) : Bool :=
  ((List.range ops.size).all fun j => j == i || need j || W.contains j) &&
  W.all fun j => ((ops[j]?).map fun o => o.after.any fun e => Region.binds md e && (e.on == i || (decide (e.on < j) && W.contains e.on))).getD false

theorem waits_out {W : List Nat} {i : Nat} {listed : Array Bool} (h : needFor md ops need W i = true) (hc : Closed md ops listed) (hi : listed.getD i false = false) : ∀ j, j ∈ W → listed.getD j false = false ∧ ∀ o, ops[j]? = some o → ∃ e ∈ o.after, Region.binds md e = true ∧ listed.getD e.on false = false := by
  have h2 := (Bool.and_eq_true_iff.1 h).2
  intro j
  induction j using Nat.strongRecOn with
  | _ j ih =>
    intro hj
    have h3 := List.all_eq_true.1 h2 j hj
    cases ho : ops[j]? with
    | none => rw [ho] at h3; simp at h3
    | some o =>
      rw [ho] at h3
      simp only [Option.map_some, Option.getD_some] at h3
      obtain ⟨k, hk, hkk⟩ := Array.any_iff_exists.1 h3
      obtain ⟨hk2, hkk⟩ := hkk
      simp only [Bool.and_eq_true, Bool.or_eq_true, beq_iff_eq, decide_eq_true_eq, List.contains_iff_mem] at hkk
      have hout : listed.getD (o.after[k]).on false = false := by
        rcases hkk.2.2 with h4 | ⟨h4, h5⟩
        · rw [h4]; exact hi
        · exact (ih _ h4 h5).1
      refine ⟨?_, fun o' ho' => ?_⟩
      · cases hl : listed.getD j false with
        | false => rfl
        | true =>
          have := hc j o ho hl _ (Array.getElem_mem _) hkk.2.1
          rw [hout] at this; cases this
      · cases ho'
        exact ⟨_, Array.getElem_mem _, hkk.2.1, hout⟩

theorem needFor_spec {W : List Nat} {i : Nat} {listed : Array Bool} (h : needFor md ops need W i = true) (hc : Closed md ops listed) (hi : listed.getD i false = false) (j : Nat) (hne : j ≠ i) (hr : j ∈ Region.ready md ops listed) : need j = true := by
  obtain ⟨_, oj, hoj, hall⟩ := mem_ready.1 hr
  have hlt : j < ops.size := (Array.getElem?_eq_some_iff.1 hoj).1
  have h1 := List.all_eq_true.1 (Bool.and_eq_true_iff.1 h).1 j (List.mem_range.2 hlt)
  simp only [Bool.or_eq_true, beq_iff_eq, List.contains_iff_mem] at h1
  rcases h1 with (h1 | h1) | h1
  · exact absurd h1 hne
  · exact h1
  · obtain ⟨e, he, hb, hout⟩ := (waits_out h hc hi j h1).2 oj hoj
    have := hall e he hb
    rw [hout] at this; cases this

theorem ready_out {i : Nat} {listed : Array Bool} (hr : i ∈ Region.ready md ops listed) : listed.getD i false = false := by
  have h0 := (mem_ready.1 hr).1
  rcases Nat.lt_or_ge i listed.size with h' | h'
  · simpa [h'] using h0
  · simp [Array.getElem?_eq_none h'] at h0

theorem wpAnyN_first {i : Nat} {oi : Oper} {v : Value} (hi : ops[i]? = some oi) (hsel : ∀ (j : Nat) (o : Oper) cs b, ops[j]? = some o → o.op ≠ .select cs b)
    (hQ : ∀ c a w, Q (.panic c) (a.put oi.dst v) w → Q (.panic c) a w) {W : List Nat} (hneed : needFor md ops need W i = true) :
    ∀ (fuel : Nat) (listed : Array Bool) (a : Act) (w : World),
      (∀ j oj, ops[j]? = some oj → j ≠ i → listed.getD j true = false → (∀ e ∈ oj.after, Region.binds md e = true → e.on ≠ i) → oi.apart ops oj = true) → Closed md ops listed →
      i ∈ Region.ready md ops listed → YieldsIf P ops S oi v a → S w →
      wpAnyN P md ops Q S need fuel (listed.setIfInBounds i true) (a.put oi.dst v) w → wpAnyN P md ops Q S need (fuel + 1) listed a w := by
  intro fuel
  induction fuel with
  | zero =>
    intro listed a w _ hc hr hy hS H
    refine ⟨fun h => (by rw [h] at hr; cases hr), fun j hj => ?_⟩
    by_cases hji : j = i
    · subst hji; exact hy.wpOp hi hS ⟨fun _ => hS, H⟩
    · have := ready_mono hj hji
      rw [H.1] at this
      cases this
  | succ fuel ih =>
    intro listed a w hfree hc hr hy hS H
    refine ⟨fun h => (by rw [h] at hr; cases hr), fun j hj => ?_⟩
    by_cases hji : j = i
    · subst hji; exact hy.wpOp hi hS ⟨fun _ => hS, H⟩
    · have h1 := H.2 j (ready_mono hj hji)
      obtain ⟨hjun, oj, hoj, hall⟩ := mem_ready.1 hj
      have hnot : ∀ e ∈ oj.after, Region.binds md e = true → e.on ≠ i := fun e he hb heq => by
        have h1 := hall e he hb
        have h0 := (mem_ready.1 hr).1
        rw [heq] at h1
        rcases Nat.lt_or_ge i listed.size with h' | h'
        · simp [h'] at h0 h1; rw [h0] at h1; cases h1
        · simp [Array.getElem?_eq_none h'] at h1
      have hnj := needFor_spec hneed hc (ready_out hr) j hji hj
      have h2 := wpOp_putIf hoj (hfree j oj hoj hji hjun hnot) (fun cs b => hsel i oi cs b hi) (fun cs b => hsel j oj cs b hoj) hQ hy h1
      have hfree' : ∀ k ok, ops[k]? = some ok → k ≠ i → (listed.setIfInBounds j true).getD k true = false →
          (∀ e ∈ ok.after, Region.binds md e = true → e.on ≠ i) → oi.apart ops ok = true := fun k ok hk hki hun hno => by
        refine hfree k ok hk hki ?_ hno
        by_cases hjk : j = k
        · subst hjk; exact hjun
        · rw [getD_set_ne true hjk] at hun; exact hun
      refine wpOp_mono (fun a' w' h3 => ⟨h3.2.1, ih (listed.setIfInBounds j true) a' w' hfree' (hc.set hj) (ready_mono hr (Ne.symm hji)) h3.1 (h3.2.1 hnj) ?_⟩) h2
      rw [Array.setIfInBounds_comm _ _ hji]
      exact h3.2.2

theorem wpAnyN_take (W : List Nat) {i : Nat} {oi : Oper} {v : Value} {fuel : Nat} {listed : Array Bool} {a : Act} {w : World} (hi : ops[i]? = some oi)
    (hs : Region.noSelect ops = true) (hf : Region.free md ops listed i = true) (hr : (Region.ready md ops listed).contains i = true) (hn : needFor md ops need W i = true) (hcl : closedB md ops listed = true)
    (hQ : ∀ c a w, Q (.panic c) (a.put oi.dst v) w → Q (.panic c) a w) (hy : YieldsIf P ops S oi v a) (hS : S w)
    (h : wpAnyN P md ops Q S need fuel (listed.setIfInBounds i true) (a.put oi.dst v) w) : wpAnyN P md ops Q S need (fuel + 1) listed a w :=
  wpAnyN_first hi (Region.noSelect_spec hs) hQ hn fuel listed a w (Region.free_spec hi hf) (closed_of hcl) (by simpa using hr) hy hS h

theorem wpAnyN_done {listed : Array Bool} {a : Act} {w : World} (hr : Region.ready md ops listed = []) (h : Q .normal a w) :
    ∀ fuel, wpAnyN P md ops Q S need fuel listed a w
  | 0 => ⟨hr, h⟩
  | _ + 1 => ⟨fun _ => h, by rw [hr]; simp⟩

theorem wp_region_N {id : Nat} {a : Act} {w : World} (need : Nat → Bool) (hm : P.follows .mixedOrders = true) (hS : S w.drew)
    (h : S w.drew → wpAnyN P .any ops Q S need ops.size (Array.replicate ops.size false) a w.drew) : (Code.region id ops true).wp P Q a w :=
  wp_region_any hm (wpAny_of_N _ _ _ _ (h hS))

def AllReadyN (P : Program) (md : Region.Mode) (ops : Array Oper) (Q : Exit → Act → World → Prop) (S : World → Prop) (need : Nat → Bool) (fuel : Nat) (listed : Array Bool) (a : Act) (w : World) (rs : List Nat) : Prop :=
  ∀ i ∈ rs, wpOp P ops Q i (fun a' w' => (need i = true → S w') ∧ wpAnyN P md ops Q S need fuel (listed.setIfInBounds i true) a' w') a w

theorem AllReadyN.nil {fuel : Nat} {listed : Array Bool} {a : Act} {w : World} : AllReadyN P md ops Q S need fuel listed a w [] := fun _ h => by cases h

/-- one that may come next, S needed behind it -/
theorem AllReadyN.cons {fuel : Nat} {listed : Array Bool} {a : Act} {w : World} {i : Nat} {o : Oper} {rs : List Nat} (ho : ops[i]? = some o)
    (h : ∀ K' : Act → World → Prop, Shut (∀ a w, S w → (S w → wpAnyN P md ops Q S need fuel (listed.setIfInBounds i true) a w) → K' a w) → if Region.wanted o (yielded ops a.tmps) = true then Oper.wp P o a w K' Q else K' (a.put o.dst undef) w)
    (hs : AllReadyN P md ops Q S need fuel listed a w rs) : AllReadyN P md ops Q S need fuel listed a w (i :: rs) := fun j hj => by
  rcases List.mem_cons.1 hj with rfl | hj
  · exact wpOp_step ho (fun K' hK => h K' (fun a w hS hW => hK a w ⟨fun _ => hS, hW hS⟩))
  · exact hs j hj
/-- one that may come next, S not needed behind it -/
theorem AllReadyN.last {fuel : Nat} {listed : Array Bool} {a : Act} {w : World} {i : Nat} {o : Oper} {rs : List Nat} (ho : ops[i]? = some o) (hn : need i = false)
    (h : ∀ K' : Act → World → Prop, Shut (∀ a w, wpAnyN P md ops Q S need fuel (listed.setIfInBounds i true) a w → K' a w) → if Region.wanted o (yielded ops a.tmps) = true then Oper.wp P o a w K' Q else K' (a.put o.dst undef) w)
    (hs : AllReadyN P md ops Q S need fuel listed a w rs) : AllReadyN P md ops Q S need fuel listed a w (i :: rs) := fun j hj => by
  rcases List.mem_cons.1 hj with rfl | hj
  · exact wpOp_step ho (fun K' hK => h K' (fun a w hW => hK a w ⟨fun h => (by rw [hn] at h; cases h), hW⟩))
  · exact hs j hj

theorem wpAnyN_ready {rs : List Nat} {fuel : Nat} {listed : Array Bool} {a : Act} {w : World} (hr : Region.ready md ops listed = rs) (hne : rs ≠ [])
    (h : AllReadyN P md ops Q S need fuel listed a w rs) : wpAnyN P md ops Q S need (fuel + 1) listed a w := ⟨fun h0 => absurd (hr ▸ h0) hne, hr ▸ h⟩
/-- an operation that yields a value and no more -/
theorem tk0 {i : Nat} {oi : Oper} {v : Value} {fuel : Nat} {listed : Array Bool} {a : Act} {w : World} (hi : ops[i]? = some oi)
    (hb : (Region.noSelect ops && (Region.free md ops listed i && ((Region.ready md ops listed).contains i && (needFor md ops need [] i && closedB md ops listed)))) = true)
    (hQ : ∀ c a w, Q (.panic c) (a.put oi.dst v) w → Q (.panic c) a w) (hy : YieldsIf P ops S oi v a) (hS : S w)
    (h : wpAnyN P md ops Q S need fuel (listed.setIfInBounds i true) (a.put oi.dst v) w) : wpAnyN P md ops Q S need (fuel + 1) listed a w := by
  simp only [Bool.and_eq_true] at hb
  obtain ⟨h1, h2, h3, h4, h5⟩ := hb
  exact wpAnyN_take [] hi h1 h2 h3 h4 h5 hQ hy hS h
/-- the same, of an operation known by its parts: the slot that it writes stands plainly -/
theorem tk {i : Nat} {d : Nat} {op : Op} {t : TypeId} {p : String} {af : Array Edge} {g : Option (Nat × Bool)} {v : Value} {fuel : Nat} {listed : Array Bool} {a : Act} {w : World} (hi : ops[i]? = some ⟨some d, op, t, p, af, g⟩)
    (hb : (Region.noSelect ops && (Region.free md ops listed i && ((Region.ready md ops listed).contains i && (needFor md ops need [] i && closedB md ops listed)))) = true)
    (hQ : ∀ c a w, Q (.panic c) (a.put (some d) v) w → Q (.panic c) a w) (hy : YieldsIf P ops S ⟨some d, op, t, p, af, g⟩ v a) (hS : S w)
    (h : wpAnyN P md ops Q S need fuel (listed.setIfInBounds i true) (a.put (some d) v) w) : wpAnyN P md ops Q S need (fuel + 1) listed a w :=
  tk0 hi hb hQ hy hS h
end
end Go.Proofs.YtonphamahnagfaaDoor

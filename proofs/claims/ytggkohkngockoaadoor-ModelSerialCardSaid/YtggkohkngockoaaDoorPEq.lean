/-
  The model of chapter 20 answers as the document: plain. No conditions.
-/
import Derived.Test.YtggkohkngockoaaDoorPInv2
namespace Go.Proofs.YtggkohkngockoaaDoor
set_option linter.unusedVariables false

theorem began_eq {l : List Ev} {s : St} (h : Inv l s) {e : Ev} (hc : 1 ≤ e.client) : beganR l e = true ↔ ¬ (¬ e.tx = s.all.length + 1 ∨ s.dead e.client.toNat = true ∨ s.now e.client.toNat = true) := by
  have hcn : ((e.client.toNat : Nat) : Int) = e.client := by omega
  unfold beganR
  rw [h.last]
  simp only [Bool.and_eq_true, decide_eq_true_eq, List.all_eq_true, freeR]
  constructor
  · rintro ⟨h1, h2⟩ (q | q | q)
    · exact q h1
    · obtain ⟨a, ha, h8, hcl⟩ := (h.dead _).1 q
      exact (h2 a ha).1 ⟨h8, by rw [hcl, hcn]⟩
    · obtain ⟨i, x, hx, hcl, h3⟩ := (h.now _).1 q
      obtain ⟨a, ha, k1, htx, hac⟩ := h.bg' i x hx
      refine (h2 a ha).2 ⟨k1, by rw [hac, hcl, hcn], ?_⟩
      rw [htx]
      rcases (h.tx i x hx).st with ⟨_, b⟩ | ⟨_, b⟩ | ⟨b, _⟩
      · omega
      · omega
      · exact absurd b h3
  · intro q
    refine ⟨Classical.byContradiction fun z => q (.inl z), fun a ha => ⟨fun z => q (.inr (.inl ((h.dead _).2 ⟨a, ha, z.1, by rw [z.2, hcn]⟩))), fun z => ?_⟩⟩
    obtain ⟨k1, hac, hst⟩ := z
    obtain ⟨i, x, hx, htx, hxc⟩ := h.bg a ha k1
    refine q (.inr (.inr ((h.now _).2 ⟨i, x, hx, by rw [hxc, hac, hcn], fun h3 => ?_⟩)))
    rw [htx] at hst
    rcases (h.tx i x hx).st with ⟨b, _⟩ | ⟨b, _⟩ | ⟨_, b | b⟩ <;> omega
theorem crashed_eq {l : List Ev} {s : St} (h : Inv l s) {e : Ev} (hc : 1 ≤ e.client) : crashedR l e.client = true ↔ ¬ s.dead e.client.toNat = true := by
  have hcn : ((e.client.toNat : Nat) : Int) = e.client := by omega
  unfold crashedR
  rw [h.dead]
  simp only [List.all_eq_true, decide_eq_true_eq, hcn]
  constructor
  · rintro h1 ⟨a, ha, h8, hcl⟩
    rcases h1 a ha with q | q
    · exact q h8
    · exact q hcl
  · intro q a ha
    rcases Classical.em (a.kind = 8) with h8 | h8
    · right; intro hcl; exact q ⟨a, ha, h8, hcl⟩
    · exact .inl h8
theorem getD_of {l : List Ev} {i : Nat} {a : Ev} (h : l[i]? = some a) : l.getD i Ev.none = a ∧ i < l.length := by
  rw [List.getD_eq_getElem?_getD, h]
  exact ⟨rfl, (List.getElem?_eq_some_iff.1 h).1⟩
theorem of_getD {l : List Ev} {i : Nat} (h : i < l.length) : l[i]? = some (l.getD i Ev.none) := by
  rw [List.getD_eq_getElem?_getD, List.getElem?_eq_getElem h]; rfl
theorem ser_end {l : List Ev} {s : St} (h : Inv l s) {t : Int} (h1 : 1 ≤ t) (h2 : t ≤ s.all.length) : (t ∈ s.serial ∧ (s.tx t).fin = endR l t ∧ endR l t < l.length) ∨ (t ∉ s.serial ∧ endR l t = l.length) := by
  obtain ⟨i, hi, _, hx⟩ := at_tx h1 h2
  have := (h.tx i _ hx).fin
  rw [← hi] at this
  rcases this with ⟨a, b, c, _⟩ | q
  · exact .inl ⟨a, b, c⟩
  · exact .inr q
theorem got_ev {l : List Ev} {s : St} (h : Inv l s) {t : Int} (h1 : 1 ≤ t) (h2 : t ≤ s.all.length) (g : Got) : g ∈ (s.tx t).got ↔ ∃ (i : Nat) (e : Ev), l[i]? = some e ∧ e.kind = 3 ∧ e.tx = t ∧ g = ⟨e.table, e.row, e.mode, (i : Int)⟩ := by
  obtain ⟨i, hi, _, hx⟩ := at_tx h1 h2
  have := (h.tx i _ hx).got g
  rwa [← hi] at this
theorem ser_in {l : List Ev} {s : St} (h : Inv l s) {t : Int} (ht : t ∈ s.serial) : 1 ≤ t ∧ t ≤ s.all.length := by
  obtain ⟨i, x, hx, e, _⟩ := h.ser3 t ht
  have := (List.getElem?_eq_some_iff.1 hx).1
  omega
theorem clash_eq {l : List Ev} {s : St} (h : Inv l s) {t : Int} (h1 : 1 ≤ t) (h2 : t ≤ s.all.length) (h3 : t ∉ s.serial) : (s.serial.any fun n => clashB { s.tx t with fin := (l.length : Int) } (s.tx n)) = clashR l t := by
  rw [Bool.eq_iff_iff]
  unfold clashR clashB
  simp only [List.any_eq_true, List.mem_range, Bool.and_eq_true, decide_eq_true_eq]
  constructor
  · rintro ⟨n, hn, x, hx, y, hy, ⟨⟨⟨ht1, ht2⟩, htog⟩, hp⟩, hq⟩
    obtain ⟨n1, n2⟩ := ser_in h hn
    obtain ⟨i, a, ha, ka, ta, rfl⟩ := (got_ev h h1 h2 x).1 hx
    obtain ⟨k, b, hb, kb, tb, rfl⟩ := (got_ev h n1 n2 y).1 hy
    obtain ⟨ga, la⟩ := getD_of ha
    obtain ⟨gb, lb⟩ := getD_of hb
    refine ⟨i, la, k, lb, ?_⟩
    unfold clashAt
    rw [ga, gb]
    simp only [Bool.and_eq_true, decide_eq_true_eq]
    rcases ser_end h n1 n2 with ⟨_, f1, f2⟩ | ⟨f1, _⟩
    · refine ⟨⟨⟨ka, kb, ta, ?_, ht1, ht2⟩, htog⟩, by rw [tb]; exact f2, ?_⟩
      · rw [tb]; intro e; rw [← e] at h3; exact h3 hn
      · rw [tb]; simp only at hp; rw [f1] at hp; omega
    · exact absurd hn f1
  · rintro ⟨i, la, k, lb, hc⟩
    have ha := of_getD la
    have hb := of_getD lb
    unfold clashAt at hc
    generalize l.getD i Ev.none = a at ha hc
    generalize l.getD k Ev.none = b at hb hc
    simp only [Bool.and_eq_true, decide_eq_true_eq] at hc
    obtain ⟨⟨⟨ka, kb, ta, tb, e1, e2⟩, htog⟩, f1, f2⟩ := hc
    have hbm : b ∈ l := List.mem_of_getElem? hb
    obtain ⟨n1, n2⟩ := h.non b hbm (by omega)
    rcases ser_end h n1 n2 with ⟨g1, g2, _⟩ | ⟨_, g2⟩
    · refine ⟨b.tx, g1, ⟨a.table, a.row, a.mode, (i : Int)⟩, (got_ev h h1 h2 _).2 ⟨i, a, ha, ka, ta, rfl⟩, ⟨b.table, b.row, b.mode, (k : Int)⟩, (got_ev h n1 n2 _).2 ⟨k, b, hb, kb, rfl, rfl⟩, ⟨⟨⟨e1, e2⟩, htog⟩, ?_⟩, ?_⟩
      · simp only; rw [g2]; omega
      · simp only; omega
    · omega

/-- one that is finishing has no open question -/
def Op2 (s : St) : Prop := ∀ (i : Nat) (x : Tx), s.all[i]? = some x → x.state = 2 → x.opn = false
theorem op2_start : Op2 start := fun i x h => by simp [start] at h
theorem op2_set {s : St} (h : Op2 s) (i : Nat) (y : Tx) (hy : y.state = 2 → y.opn = false) (d n : Nat → Bool) (ser : List Int) : Op2 ⟨s.all.set i y, d, n, ser⟩ := fun j x hx h2 => by
  rcases set_get hx with ⟨_, rfl, _⟩ | ⟨_, hx⟩
  · exact hy h2
  · exact h j x hx h2
theorem Op2.next {s : St} (h : Op2 s) {e : Ev} {n : Int} (h0 : nextE s e n = 0) : Op2 (nextS s e n) := by
  have hf := next_form h0
  unfold nextS
  by_cases k1 : e.kind = 1
  · rw [if_pos k1]
    intro i x hx h2
    simp only [List.getElem?_append] at hx
    split at hx
    · exact h i x hx h2
    · rw [List.getElem?_singleton] at hx
      split at hx
      · cases hx; rfl
      · cases hx
  rw [if_neg k1]
  by_cases k8 : e.kind = 8
  · rw [if_pos k8]; exact h
  rw [if_neg k8]
  obtain ⟨_, ht1, ht2, hx3, hE⟩ := next_tx h0 k1 k8
  unfold stepE at hE
  unfold stepS St.put St.over
  simp only at hE ⊢
  generalize s.tx e.tx = x at *
  by_cases k2 : e.kind = 2
  · rw [if_pos k2] at hE ⊢
    have hc : x.state = 1 ∧ x.opn = false := Classical.byContradiction fun q => by rw [if_neg q] at hE; exact absurd hE (by decide)
    exact op2_set h _ _ (fun z => by have := hc.1; simp only at z; omega) _ _ _
  rw [if_neg k2] at hE ⊢
  by_cases k3 : e.kind = 3
  · rw [if_pos k3]; exact op2_set h _ _ (fun _ => rfl) _ _ _
  rw [if_neg k3] at hE ⊢
  by_cases k4 : e.kind = 4
  · rw [if_pos k4]; exact op2_set h _ _ (fun _ => rfl) _ _ _
  rw [if_neg k4] at hE ⊢
  by_cases k5 : e.kind = 5
  · rw [if_pos k5] at hE ⊢
    have hc : x.state = 1 ∧ x.opn = false ∧ x.asked = true := Classical.byContradiction fun q => by rw [if_neg q] at hE; exact absurd hE (by decide)
    exact op2_set h _ { x with state := 2 } (fun _ => hc.2.1) _ _ _
  rw [if_neg k5]
  by_cases k6 : e.kind = 6
  · rw [if_pos k6]; exact op2_set h _ _ (fun z => by simp at z) _ _ _
  · rw [if_neg k6]; exact op2_set h _ _ (fun z => by simp at z) _ _ _
theorem ite_same {p q : Prop} [Decidable p] [Decidable q] {a b : Int} (h : p ↔ q) : (if p then a else b) = if q then a else b := by
  by_cases hp : p
  · rw [if_pos hp, if_pos (h.1 hp)]
  · rw [if_neg hp, if_neg (fun hq => hp (h.2 hq))]
theorem next_eq {l : List Ev} {s : St} (h : Inv l s) (h22 : Op2 s) (e : Ev) : nextE s e l.length = nextR l e := by
  unfold nextE nextR
  by_cases hf : formB e = false
  · rw [if_pos hf, if_pos hf]
  rw [if_neg hf, if_neg hf]
  have hf' : formB e = true := by simpa using hf
  simp only
  by_cases k1 : e.kind = 1
  · rw [if_pos k1, if_pos k1]
    have hb := began_eq h (form_1 hf' k1).1
    by_cases hc : beganR l e = true
    · rw [if_neg (hb.1 hc), if_pos hc]
    · rw [if_pos (Classical.byContradiction fun q => hc (hb.2 q)), if_neg hc]
  rw [if_neg k1, if_neg k1]
  by_cases k8 : e.kind = 8
  · have n2 : (e.kind = 2) = False := eq_false (by omega)
    have n3 : (e.kind = 3) = False := eq_false (by omega)
    have n4 : (e.kind = 4) = False := eq_false (by omega)
    have n5 : (e.kind = 5) = False := eq_false (by omega)
    have n6 : (e.kind = 6) = False := eq_false (by omega)
    have n7 : (e.kind = 7) = False := eq_false (by omega)
    have p8 : (e.kind = 8) = True := eq_true k8
    simp only [n2, n3, n4, n5, n6, n7, p8, if_true, if_false]
    have hb := crashed_eq h (form_8 hf' k8).1
    by_cases hc : crashedR l e.client = true
    · rw [if_neg (hb.1 hc), if_pos hc]
    · rw [if_pos (Classical.byContradiction fun q => hc (hb.2 q)), if_neg hc]
  rw [if_neg k8]
  have ht1 := form_tx hf' k8
  have hk : e.kind = 2 ∨ e.kind = 3 ∨ e.kind = 4 ∨ e.kind = 5 ∨ e.kind = 6 ∨ e.kind = 7 := by have := form_code hf'; omega
  -- a transaction that is none, or that is decided
  have none : ∀ v : Int, (v = 0 ∨ v = 3 ∨ v = 4) → (ofR l e.tx).state = v → (if e.kind = 2 then (if (ofR l e.tx).state = 1 ∧ (ofR l e.tx).mode = 0 then (0 : Int) else 11)
    else if e.kind = 3 then (if (ofR l e.tx).state = 1 ∧ grantedR l (ofR l e.tx) e = true then 0 else 11)
    else if e.kind = 4 then (if (ofR l e.tx).state = 1 ∧ 0 < (ofR l e.tx).mode ∧ (ofR l e.tx).table = e.table ∧ (ofR l e.tx).row = e.row then 0 else 11)
    else if e.kind = 5 then (if ((ofR l e.tx).state = 1 ∧ (ofR l e.tx).mode = 0) ∧ (ofR l e.tx).asked = true then 0 else 11)
    else if e.kind = 6 then (if (ofR l e.tx).state = 2 ∨ (((ofR l e.tx).state = 1 ∧ (ofR l e.tx).mode = 0) ∧ (ofR l e.tx).asked = false) then (if clashR l e.tx = true then 8 else 0) else 11)
    else if e.kind = 7 then (if (ofR l e.tx).state = 1 ∨ (ofR l e.tx).state = 2 then 0 else 11)
    else if crashedR l e.client = true then 0 else 11) = 11 := fun v hv hs => by
    rw [hs]
    rcases hk with k | k | k | k | k | k <;> rw [k] <;> simp <;> omega
  by_cases hlen : (s.all.length : Int) < e.tx
  · rw [if_pos (.inl hlen)]
    symm
    refine none 0 (.inl rfl) ?_
    rw [of_none l e.tx fun a ha => ?_]
    · rfl
    · rcases Classical.em (a.kind = 8) with q | q
      · exact .inl q
      · right; have := h.non a ha q; omega
  obtain ⟨i, hti, _, hx⟩ := at_tx ht1 (by omega : e.tx ≤ s.all.length)
  have hT := h.tx i _ hx
  rw [← hti] at hT
  by_cases h3 : (s.tx e.tx).state = 3
  · rw [if_pos (.inr h3)]
    symm
    rcases hT.st with ⟨a, _⟩ | ⟨a, _⟩ | ⟨_, b | b⟩
    · omega
    · omega
    · exact none 3 (.inr (.inl rfl)) b
    · exact none 4 (.inr (.inr rfl)) b
  rw [if_neg (by rintro (q | q); exact hlen q; exact h3 q)]
  have hnd := hT.nd h3
  have hcl := clash_eq h ht1 (by omega) hnd.1
  unfold stepE
  simp only
  obtain ⟨x, hxe⟩ : ∃ x, s.tx e.tx = x := ⟨_, rfl⟩
  rw [hxe] at hT h3 hcl ⊢
  have st1 : x.state = 1 ↔ (ofR l e.tx).state = 1 := by
    rcases hT.st with ⟨a, b⟩ | ⟨a, b⟩ | ⟨a, b⟩ <;> constructor <;> intro q <;> omega
  have st2 : x.state = 2 ↔ (ofR l e.tx).state = 2 := by
    rcases hT.st with ⟨a, b⟩ | ⟨a, b⟩ | ⟨a, b⟩ <;> constructor <;> intro q <;> omega
  have st12 : (ofR l e.tx).state = 1 ∨ (ofR l e.tx).state = 2 := by
    rcases hT.st with ⟨a, b⟩ | ⟨a, b⟩ | ⟨a, b⟩
    · exact .inl b
    · exact .inr b
    · exact absurd a h3
  have op : x.opn = false ↔ (ofR l e.tx).mode = 0 := by
    cases ho : x.opn with
    | false => exact ⟨fun _ => hT.no ho, fun _ => rfl⟩
    | true =>
      have := hT.yes ho
      constructor
      · intro q; cases q
      · intro q; omega
  have opt : x.opn = true ↔ 0 < (ofR l e.tx).mode := by
    cases ho : x.opn with
    | false =>
      have := hT.no ho
      constructor
      · intro q; cases q
      · intro q; omega
    | true =>
      have := hT.yes ho
      exact ⟨fun _ => by omega, fun _ => rfl⟩
  have at_ : x.opn = true → (ofR l e.tx).mode = x.mode ∧ (ofR l e.tx).table = x.table ∧ (ofR l e.tx).row = x.row := fun q => ⟨(hT.yes q).1, (hT.yes q).2.2.1, (hT.yes q).2.2.2⟩
  rcases hk with k | k | k | k | k | k
  · skip
    have p2 : (e.kind = 2) = True := eq_true k
    have p3 : (e.kind = 3) = False := eq_false (by omega)
    have p4 : (e.kind = 4) = False := eq_false (by omega)
    have p5 : (e.kind = 5) = False := eq_false (by omega)
    have p6 : (e.kind = 6) = False := eq_false (by omega)
    have p7 : (e.kind = 7) = False := eq_false (by omega)
    simp only [p2, p3, p4, p5, p6, p7, if_true, if_false]
    exact ite_same (by rw [st1, op])
  · skip
    have p2 : (e.kind = 2) = False := eq_false (by omega)
    have p3 : (e.kind = 3) = True := eq_true k
    have p4 : (e.kind = 4) = False := eq_false (by omega)
    have p5 : (e.kind = 5) = False := eq_false (by omega)
    have p6 : (e.kind = 6) = False := eq_false (by omega)
    have p7 : (e.kind = 7) = False := eq_false (by omega)
    simp only [p2, p3, p4, p5, p6, p7, if_true, if_false]
    have hg : x.opn = true → grantB x e = grantedR l (ofR l e.tx) e ∨ ¬ (x.table = e.table ∧ x.row = e.row) := fun q => by
      by_cases hat : x.table = e.table ∧ x.row = e.row
      · left
        obtain ⟨a1, a2, a3⟩ := at_ q
        have hm := (hT.yes q).2.1
        have hres := (form_23 hf' (.inr k)).2.2.2
        have hrow : 0 ≤ e.row := by unfold resB at hres; simp at hres; omega
        unfold grantB grantedR
        rw [a1, a2, a3, hT.modes, hT.modes]
        have d1 : decide (¬ x.mode = 0 ∧ x.table = e.table ∧ x.row = e.row) = true := decide_eq_true ⟨by omega, hat.1, hat.2⟩
        have d2 : decide (¬ 0 < e.row) = decide (e.row = 0) := by
          by_cases hz : e.row = 0
          · rw [decide_eq_true hz, decide_eq_true (by omega)]
          · rw [decide_eq_false hz, decide_eq_false (by omega)]
        rw [d1, d2, Bool.true_and]
      · exact .inr hat
    by_cases hc : x.state = 1 ∧ x.opn = true ∧ x.table = e.table ∧ x.row = e.row
    · rw [if_pos hc]
      rcases hg hc.2.1 with q | q
      · rw [q]
        exact ite_same ⟨fun z => ⟨st1.1 hc.1, z⟩, fun z => z.2⟩
      · exact absurd hc.2.2 q
    · rw [if_neg hc, if_neg]
      rintro ⟨z1, z2⟩
      unfold grantedR at z2
      simp only [Bool.and_eq_true, decide_eq_true_eq] at z2
      obtain ⟨⟨⟨y1, y2, y3⟩, _⟩, _⟩ := z2
      have ho : x.opn = true := by
        cases ho : x.opn with
        | false => exact absurd (op.1 ho) y1
        | true => rfl
      obtain ⟨_, a2, a3⟩ := at_ ho
      exact hc ⟨st1.2 z1, ho, a2.symm.trans y2, a3.symm.trans y3⟩
  · skip
    have p2 : (e.kind = 2) = False := eq_false (by omega)
    have p3 : (e.kind = 3) = False := eq_false (by omega)
    have p4 : (e.kind = 4) = True := eq_true k
    have p5 : (e.kind = 5) = False := eq_false (by omega)
    have p6 : (e.kind = 6) = False := eq_false (by omega)
    have p7 : (e.kind = 7) = False := eq_false (by omega)
    simp only [p2, p3, p4, p5, p6, p7, if_true, if_false]
    refine ite_same ?_
    rw [st1, opt]
    constructor
    · rintro ⟨z1, z2, z3, z4⟩
      obtain ⟨_, a2, a3⟩ := at_ (opt.2 z2)
      exact ⟨z1, z2, a2.trans z3, a3.trans z4⟩
    · rintro ⟨z1, z2, z3, z4⟩
      obtain ⟨_, a2, a3⟩ := at_ (opt.2 z2)
      exact ⟨z1, z2, a2.symm.trans z3, a3.symm.trans z4⟩
  · skip
    have p2 : (e.kind = 2) = False := eq_false (by omega)
    have p3 : (e.kind = 3) = False := eq_false (by omega)
    have p4 : (e.kind = 4) = False := eq_false (by omega)
    have p5 : (e.kind = 5) = True := eq_true k
    have p6 : (e.kind = 6) = False := eq_false (by omega)
    have p7 : (e.kind = 7) = False := eq_false (by omega)
    simp only [p2, p3, p4, p5, p6, p7, if_true, if_false]
    refine ite_same ?_
    rw [st1, op, hT.asked, and_assoc]
  · skip
    have p2 : (e.kind = 2) = False := eq_false (by omega)
    have p3 : (e.kind = 3) = False := eq_false (by omega)
    have p4 : (e.kind = 4) = False := eq_false (by omega)
    have p5 : (e.kind = 5) = False := eq_false (by omega)
    have p6 : (e.kind = 6) = True := eq_true k
    have p7 : (e.kind = 7) = False := eq_false (by omega)
    simp only [p2, p3, p4, p5, p6, p7, if_true, if_false]
    rw [hcl, hT.asked]
    by_cases hc : x.opn = true ∨ (¬ x.state = 2 ∧ x.asked = true)
    · rw [if_pos hc, if_neg]
      rintro (z | ⟨⟨z1, z2⟩, z3⟩)
      · rcases hc with q | q
        · have := h22 i x (by rw [← hxe]; exact hx) (st2.2 z)
          rw [q] at this; cases this
        · exact q.1 (st2.2 z)
      · rcases hc with q | q
        · have := opt.1 q; omega
        · rw [z3] at q; exact absurd q.2 (by decide)
    · rw [if_neg hc]
      refine (if_pos ?_).symm
      have ho : x.opn = false := by
        cases ho : x.opn with
        | false => rfl
        | true => exact absurd (.inl ho) hc
      rcases st12 with q | q
      · right
        refine ⟨⟨q, op.1 ho⟩, ?_⟩
        cases ha : x.asked with
        | false => rfl
        | true => exact absurd (.inr ⟨fun z => by have := st2.1 z; omega, ha⟩) hc
      · exact .inl q
  · skip
    have p2 : (e.kind = 2) = False := eq_false (by omega)
    have p3 : (e.kind = 3) = False := eq_false (by omega)
    have p4 : (e.kind = 4) = False := eq_false (by omega)
    have p5 : (e.kind = 5) = False := eq_false (by omega)
    have p6 : (e.kind = 6) = False := eq_false (by omega)
    have p7 : (e.kind = 7) = True := eq_true k
    simp only [p2, p3, p4, p5, p6, p7, if_true, if_false]
    rw [if_pos st12]
end Go.Proofs.YtggkohkngockoaaDoor

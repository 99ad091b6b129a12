/-
  What the model of chapter 20 knows stays so at each event that may come. No conditions.
-/
import Derived.Test.YtggkohkngockoaaDoorPInv
namespace Go.Proofs.YtggkohkngockoaaDoor
set_option linter.unusedVariables false

theorem snoc_all {P : List Ev → Prop} (h0 : P []) (h1 : ∀ l a, P l → P (l ++ [a])) (l : List Ev) : P l := by
  rw [← List.reverse_reverse l]
  induction l.reverse with
  | nil => exact h0
  | cons a r ih => rw [List.reverse_cons]; exact h1 _ _ ih
theorem of_none (l : List Ev) (t : Int) (h : ∀ e ∈ l, e.kind = 8 ∨ ¬ e.tx = t) : ofR l t = rtx0 := by
  revert h
  refine snoc_all (P := fun l => (∀ e ∈ l, e.kind = 8 ∨ ¬ e.tx = t) → ofR l t = rtx0) (fun _ => rfl) (fun l a ih h => ?_) l
  rw [of_snoc, ih (fun e he => h e (by simp [he]))]
  unfold ofStep
  rw [if_pos (by rcases h a (by simp) with h | h; exact .inr h; exact .inl h)]
theorem mode_none (l : List Ev) (t a b : Int) (h : ∀ e ∈ l, ¬ (e.kind = 3 ∧ e.tx = t)) : modeR l t a b = 0 := by
  revert h
  refine snoc_all (P := fun l => (∀ e ∈ l, ¬ (e.kind = 3 ∧ e.tx = t)) → modeR l t a b = 0) (fun _ => rfl) (fun l x ih h => ?_) l
  rw [mode_snoc, ih (fun e he => h e (by simp [he]))]
  unfold modeStep
  rw [if_neg (fun hh => h x (by simp) ⟨hh.1, hh.2.1⟩)]
theorem end_none (l : List Ev) (t : Int) (h : ∀ e ∈ l, ¬ (e.kind = 6 ∧ e.tx = t)) : endR l t = l.length := by
  revert h
  refine snoc_all (P := fun l => (∀ e ∈ l, ¬ (e.kind = 6 ∧ e.tx = t)) → endR l t = l.length) (fun _ => rfl) (fun l x ih h => ?_) l
  rw [end_snoc, ih (fun e he => h e (by simp [he])), if_neg (by omega), if_neg (h x (by simp))]
  simp
theorem of_at {l : List Ev} {e : Ev} {t : Int} (ht : e.tx = t) (h8 : ¬ e.kind = 8) : ofR (l ++ [e]) t = (if e.kind = 1 then { ofR l t with state := 1, client := e.client } else if e.kind = 2 then { ofR l t with table := e.table, row := e.row, mode := e.mode, asked := true } else if e.kind = 3 ∨ e.kind = 4 then { ofR l t with mode := 0 } else if e.kind = 5 then { ofR l t with state := 2 } else if e.kind = 6 then { ofR l t with state := 3 } else if e.kind = 7 then { ofR l t with state := 4 } else ofR l t) := by
  rw [of_snoc]
  unfold ofStep
  rw [if_neg (by rintro (h | h); exact h ht; exact h8 h)]
theorem TxInv.nd {l : List Ev} {ser : List Int} {t : Int} {x : Tx} (h : TxInv l ser t x) (hx : ¬ x.state = 3) : t ∉ ser ∧ endR l t = l.length := by
  rcases h.fin with ⟨_, _, _, d⟩ | h
  · exact absurd d hx
  · exact h

theorem Inv.began {l : List Ev} {s : St} (h : Inv l s) {e : Ev} (k1 : e.kind = 1) (ht : e.tx = s.all.length + 1) (hn : s.now e.client.toNat = false) (hc : 0 ≤ e.client) : Inv (l ++ [e]) ⟨s.all ++ [newTx e.client], s.dead, off s.now e.client true, s.serial⟩ := by
  have fresh : ∀ a ∈ l, a.kind = 8 ∨ ¬ a.tx = e.tx := fun a ha => by
    rcases Classical.em (a.kind = 8) with h8 | h8
    · exact .inl h8
    · have := h.non a ha h8; right; omega
  have old : ∀ {i : Nat} {x : Tx}, s.all[i]? = some x → i < s.all.length := fun h => (List.getElem?_eq_some_iff.1 h).1
  have split : ∀ {i : Nat} {x : Tx}, (s.all ++ [newTx e.client])[i]? = some x → s.all[i]? = some x ∨ (i = s.all.length ∧ x = newTx e.client) := fun {i x} hx => by
    rw [List.getElem?_append] at hx
    split at hx
    · exact .inl hx
    · rw [List.getElem?_singleton] at hx
      split at hx
      · cases hx; exact .inr ⟨by omega, rfl⟩
      · cases hx
  have up : ∀ {i : Nat} {x : Tx}, s.all[i]? = some x → (s.all ++ [newTx e.client])[i]? = some x := fun hx => by
    rw [List.getElem?_append_left (old hx)]; exact hx
  have newest : (s.all ++ [newTx e.client])[s.all.length]? = some (newTx e.client) := by simp
  have free : ∀ (i : Nat) (x : Tx), s.all[i]? = some x → x.client = e.client → x.state = 3 := fun i x hx hxc => Classical.byContradiction fun h3 => by
    have := (h.now e.client.toNat).2 ⟨i, x, hx, by rw [hxc]; omega, h3⟩
    rw [hn] at this; cases this
  have serlt : ∀ t ∈ s.serial, t ≤ s.all.length := fun t ht => by
    obtain ⟨i, x, hx, e1, _⟩ := h.ser3 t ht
    have := old hx; omega
  have sertx : ∀ t ∈ s.serial, St.tx ⟨s.all ++ [newTx e.client], s.dead, off s.now e.client true, s.serial⟩ t = s.tx t := fun t ht => by
    obtain ⟨i, x, hx, e1, _⟩ := h.ser3 t ht
    subst e1
    rw [tx_at hx]
    exact tx_at (s := ⟨s.all ++ [newTx e.client], s.dead, off s.now e.client true, s.serial⟩) (up hx)
  refine ⟨?_, fun i x hx => ?_, fun a ha h8 => ?_, fun a ha ha1 => ?_, fun i x hx => ?_, fun c => ?_, fun c => ?_, fun i j x y hi hj hxy h3 h3' => ?_, ?_, fun t ht => ?_, ?_⟩
  · rw [last_snoc]; unfold lastStep; rw [if_pos k1]; simp; omega
  · rcases split hx with hx | ⟨rfl, rfl⟩
    · exact (h.tx i x hx).other e (.inr (by have := old hx; omega)) Iff.rfl
    · have et : ((s.all.length : Nat) : Int) + 1 = e.tx := ht.symm
      rw [et]
      have o := of_none l e.tx fresh
      have oo : ofR (l ++ [e]) e.tx = { rtx0 with state := 1, client := e.client } := by rw [of_at rfl (by omega), if_pos k1, o]
      refine ⟨.inl ⟨rfl, by rw [oo]⟩, by rw [oo]; rfl, fun h => by simp [newTx] at h, fun _ => by rw [oo]; rfl, fun a b => ?_, fun g => ?_, .inr ⟨fun hm => by have := serlt _ hm; omega, ?_⟩⟩
      · rw [mode_none (l ++ [e]) e.tx a b]
        · rfl
        · intro a ha
          rcases List.mem_append.1 ha with ha | ha
          · rintro ⟨p, q⟩
            rcases fresh a ha with h | h
            · omega
            · exact h q
          · rw [List.mem_singleton] at ha; subst ha; omega
      · constructor
        · intro hg; simp [newTx] at hg
        · rintro ⟨i, a, h1, h2, h3, h4⟩
          have ha : a ∈ l ++ [e] := List.mem_of_getElem? h1
          rcases List.mem_append.1 ha with ha | ha
          · rcases fresh a ha with h | h
            · omega
            · exact absurd h3 h
          · rw [List.mem_singleton] at ha; subst ha; omega
      · refine end_none _ _ fun a ha => ?_
        rcases List.mem_append.1 ha with ha | ha
        · rintro ⟨p, q⟩
          rcases fresh a ha with h | h
          · omega
          · exact h q
        · rw [List.mem_singleton] at ha; subst ha; omega
  · rcases List.mem_append.1 ha with ha | ha
    · have := h.non a ha h8; simp; omega
    · rw [List.mem_singleton] at ha; subst ha; simp; omega
  · rcases List.mem_append.1 ha with ha | ha
    · obtain ⟨i, x, h1, h2, h3⟩ := h.bg a ha ha1
      exact ⟨i, x, up h1, h2, h3⟩
    · rw [List.mem_singleton] at ha; subst ha
      exact ⟨s.all.length, _, newest, ht, rfl⟩
  · rcases split hx with hx | ⟨rfl, rfl⟩
    · obtain ⟨a, h1, h2⟩ := h.bg' i x hx
      exact ⟨a, by simp [h1], h2⟩
    · exact ⟨e, by simp, k1, ht, rfl⟩
  · rw [h.dead c]
    constructor
    · rintro ⟨a, h1, h2⟩; exact ⟨a, by simp [h1], h2⟩
    · rintro ⟨a, h1, h2⟩
      rcases List.mem_append.1 h1 with h1 | h1
      · exact ⟨a, h1, h2⟩
      · rw [List.mem_singleton] at h1; subst h1; omega
  · show off s.now e.client true c = true ↔ _
    unfold off
    by_cases hcc : (c : Int) = e.client
    · rw [if_pos hcc]
      exact ⟨fun _ => ⟨s.all.length, _, newest, hcc.symm, by simp [newTx]⟩, fun _ => rfl⟩
    · rw [if_neg hcc, h.now c]
      constructor
      · rintro ⟨i, x, h1, h2⟩; exact ⟨i, x, up h1, h2⟩
      · rintro ⟨i, x, h1, h2, h3⟩
        rcases split h1 with h1 | ⟨rfl, rfl⟩
        · exact ⟨i, x, h1, h2, h3⟩
        · exact absurd h2.symm hcc
  · rcases split hi with hi | ⟨rfl, rfl⟩
    · rcases split hj with hj | ⟨rfl, rfl⟩
      · exact h.uniq i j x y hi hj hxy h3 h3'
      · exact absurd (free i x hi hxy) h3
    · rcases split hj with hj | ⟨rfl, rfl⟩
      · exact absurd (free j y hj hxy.symm) h3'
      · rfl
  · rw [serial_snoc, if_neg (by omega), List.append_nil]; exact h.ser
  · obtain ⟨i, x, h1, h2⟩ := h.ser3 t ht
    exact ⟨i, x, up h1, h2⟩
  · exact h.pair.imp_of_mem fun {a b} ha hb hab => by rw [sertx a ha, sertx b hb]; exact hab
theorem Inv.crashed {l : List Ev} {s : St} (h : Inv l s) {e : Ev} (k8 : e.kind = 8) : Inv (l ++ [e]) ⟨s.all, off s.dead e.client true, s.now, s.serial⟩ := by
  refine ⟨?_, fun i x hx => (h.tx i x hx).other e (.inl k8) Iff.rfl, fun a ha h8 => ?_, fun a ha ha1 => ?_, fun i x hx => ?_, fun c => ?_, h.now, h.uniq, ?_, h.ser3, h.pair⟩
  · rw [last_snoc]; unfold lastStep; rw [if_neg (by omega)]; exact h.last
  · rcases List.mem_append.1 ha with ha | ha
    · exact h.non a ha h8
    · rw [List.mem_singleton] at ha; subst ha; exact absurd k8 h8
  · rcases List.mem_append.1 ha with ha | ha
    · exact h.bg a ha ha1
    · rw [List.mem_singleton] at ha; subst ha; omega
  · obtain ⟨a, h1, h2⟩ := h.bg' i x hx
    exact ⟨a, by simp [h1], h2⟩
  · show off s.dead e.client true c = true ↔ _
    unfold off
    by_cases hcc : (c : Int) = e.client
    · rw [if_pos hcc]
      exact ⟨fun _ => ⟨e, by simp, k8, hcc.symm⟩, fun _ => rfl⟩
    · rw [if_neg hcc, h.dead c]
      constructor
      · rintro ⟨a, h1, h2⟩; exact ⟨a, by simp [h1], h2⟩
      · rintro ⟨a, h1, h2, h3⟩
        rcases List.mem_append.1 h1 with h1 | h1
        · exact ⟨a, h1, h2, h3⟩
        · rw [List.mem_singleton] at h1; subst h1; exact absurd h3.symm hcc
  · rw [serial_snoc, if_neg (by omega), List.append_nil]; exact h.ser

theorem Inv.next {l : List Ev} {s : St} (h : Inv l s) {e : Ev} (h0 : nextE s e l.length = 0) : Inv (l ++ [e]) (nextS s e l.length) := by
  have hf := next_form h0
  by_cases k1 : e.kind = 1
  · have hc := form_1 hf k1
    unfold nextE at h0
    rw [if_neg (by rw [hf]; decide), if_pos k1] at h0
    by_cases hcc : ¬ e.tx = s.all.length + 1 ∨ s.dead e.client.toNat = true ∨ s.now e.client.toNat = true
    · rw [if_pos hcc] at h0; exact absurd h0 (by decide)
    · unfold nextS
      rw [if_pos k1]
      refine h.began k1 (Classical.byContradiction fun q => hcc (.inl q)) ?_ (by omega)
      cases hn : s.now e.client.toNat with
      | false => rfl
      | true => exact absurd (.inr (.inr hn)) hcc
  by_cases k8 : e.kind = 8
  · unfold nextS
    rw [if_neg k1, if_pos k8]
    exact h.crashed k8
  obtain ⟨_, ht1, ht2, hx3, hE⟩ := next_tx h0 k1 k8
  obtain ⟨i, hti, hil, hi⟩ := at_tx ht1 ht2
  have hT := h.tx i _ hi
  obtain ⟨x, hxe⟩ : ∃ x, s.tx e.tx = x := ⟨_, rfl⟩
  rw [hxe] at hx3 hi hT
  have hnd := hT.nd hx3
  have hidx : (e.tx - 1).toNat = i := by omega
  rw [← hti] at hT hnd
  unfold stepE at hE
  simp only [hxe] at hE
  unfold nextS
  rw [if_neg k1, if_neg k8]
  unfold stepS St.put St.over
  simp only [hxe, hidx]
  by_cases k2 : e.kind = 2
  · rw [if_pos k2] at hE ⊢
    have hc : x.state = 1 ∧ x.opn = false := Classical.byContradiction fun q => by rw [if_neg q] at hE; exact absurd hE (by decide)
    have hm := form_23 hf (.inl k2)
    have o : ofR (l ++ [e]) e.tx = { ofR l e.tx with table := e.table, row := e.row, mode := e.mode, asked := true } := by rw [of_at rfl k8, if_neg k1, if_pos k2]
    refine h.upd hi hti k1 k8 hx3 rfl ?_ (.inl ⟨hx3, rfl⟩) (.inl ⟨by omega, rfl⟩)
    rw [← hti]
    refine hT.own e (by omega) (by omega) hx3 rfl ?_ (by rw [o]) (fun _ => ⟨by rw [o], hm.2.1, by rw [o], by rw [o]⟩) (fun q => by cases q)
    rw [o]; exact hT.st
  rw [if_neg k2] at hE ⊢
  by_cases k3 : e.kind = 3
  · rw [if_pos k3] at hE ⊢
    have o : ofR (l ++ [e]) e.tx = { ofR l e.tx with mode := 0 } := by rw [of_at rfl k8, if_neg k1, if_neg k2, if_pos (.inl k3)]
    refine h.upd hi hti k1 k8 hx3 rfl ?_ (.inl ⟨hx3, rfl⟩) (.inl ⟨by omega, rfl⟩)
    rw [← hti]
    refine ⟨by rw [o]; exact hT.st, by rw [o]; exact hT.asked, fun q => by simp [Tx.grant] at q, fun _ => by rw [o], fun a b => ?_, hT.got.more e k3 rfl, .inr ⟨hnd.1, ?_⟩⟩
    · rw [mode_snoc, hT.modes]
      unfold modeStep Tx.grant
      simp only [modeOf_snoc]
      by_cases hq : e.table = a ∧ e.row = b
      · rw [if_pos ⟨k3, trivial, hq.1, hq.2⟩, if_pos hq]
      · rw [if_neg (fun w => hq w.2.2), if_neg hq]
    · rw [end_snoc, if_neg (by omega), if_neg (by omega)]; simp
  rw [if_neg k3] at hE ⊢
  by_cases k4 : e.kind = 4
  · rw [if_pos k4] at hE ⊢
    have o : ofR (l ++ [e]) e.tx = { ofR l e.tx with mode := 0 } := by rw [of_at rfl k8, if_neg k1, if_neg k2, if_pos (.inr k4)]
    refine h.upd hi hti k1 k8 hx3 rfl ?_ (.inl ⟨hx3, rfl⟩) (.inl ⟨by omega, rfl⟩)
    rw [← hti]
    exact hT.own e (by omega) (by omega) hx3 rfl (by rw [o]; exact hT.st) (by rw [o]; exact hT.asked) (fun q => by cases q) (fun _ => by rw [o])
  rw [if_neg k4] at hE ⊢
  by_cases k5 : e.kind = 5
  · rw [if_pos k5] at hE ⊢
    have hc : x.state = 1 ∧ x.opn = false ∧ x.asked = true := Classical.byContradiction fun q => by rw [if_neg q] at hE; exact absurd hE (by decide)
    have o : ofR (l ++ [e]) e.tx = { ofR l e.tx with state := 2 } := by rw [of_at rfl k8, if_neg k1, if_neg k2, if_neg (by omega), if_pos k5]
    refine h.upd hi hti k1 k8 hx3 rfl ?_ (.inl ⟨by simp, rfl⟩) (.inl ⟨by omega, rfl⟩)
    rw [← hti]
    exact hT.own e (by omega) (by omega) hx3 rfl (.inr (.inl ⟨rfl, by rw [o]⟩)) (by rw [o]; exact hT.asked) (fun q => by rw [show ({ x with state := 2 } : Tx).opn = x.opn from rfl, hc.2.1] at q; cases q) (fun _ => by rw [o]; exact hT.no hc.2.1)
  rw [if_neg k5] at hE ⊢
  by_cases k6 : e.kind = 6
  · rw [if_pos k6] at hE ⊢
    have hc : ¬ (x.opn = true ∨ (¬ x.state = 2 ∧ x.asked = true)) := fun q => by rw [if_pos q] at hE; exact absurd hE (by decide)
    rw [if_neg hc] at hE
    have hcl : ¬ (s.serial.any fun n => clashB { x with fin := (l.length : Int) } (s.tx n)) = true := fun q => by rw [if_pos q] at hE; exact absurd hE (by decide)
    have hof : x.opn = false := by
      cases ho : x.opn with
      | false => rfl
      | true => exact absurd (.inl ho) hc
    have o : ofR (l ++ [e]) e.tx = { ofR l e.tx with state := 3 } := by rw [of_at rfl k8, if_neg k1, if_neg k2, if_neg (by omega), if_neg (by omega), if_pos k6]
    refine h.upd hi hti k1 k8 hx3 rfl ?_ (.inr ⟨rfl, rfl⟩) (.inr ⟨k6, rfl, rfl, rfl, fun a ha => ?_⟩)
    · rw [← hti]
      refine ⟨.inr (.inr ⟨rfl, .inl (by rw [o])⟩), by rw [o]; exact hT.asked, (fun q => by rw [show ({ x with fin := (l.length : Int), state := 3 } : Tx).opn = x.opn from rfl, hof] at q; cases q), fun _ => by rw [o]; exact hT.no hof, fun a b => ?_, hT.got.same e (by omega), .inl ⟨by simp, ?_, ?_, rfl⟩⟩
      · rw [mode_snoc, hT.modes]; unfold modeStep; rw [if_neg (by omega)]
      · rw [end_snoc, if_neg (by omega), if_pos ⟨k6, rfl⟩]
      · rw [end_snoc, if_neg (by omega), if_pos ⟨k6, rfl⟩]; simp
    · have := List.any_eq_false.1 (by simpa using hcl) a ha
      simpa [clashB] using this
  rw [if_neg k6]
  have k7 : e.kind = 7 := by have := form_code hf; omega
  have o : ofR (l ++ [e]) e.tx = { ofR l e.tx with state := 4 } := by rw [of_at rfl k8, if_neg k1, if_neg k2, if_neg (by omega), if_neg (by omega), if_neg (by omega), if_pos k7]
  refine h.upd hi hti k1 k8 hx3 rfl ?_ (.inr ⟨rfl, rfl⟩) (.inl ⟨by omega, rfl⟩)
  rw [← hti]
  refine hT.own e (by omega) (by omega) hx3 rfl (.inr (.inr ⟨rfl, .inr (by rw [o])⟩)) (by rw [o]; exact hT.asked) (fun q => ?_) (fun q => ?_)
  · rw [o]; exact hT.yes q
  · rw [o]; exact hT.no q
theorem inv_after {r l : List Ev} {s : St} (h : Inv r s) (ho : okF s l r.length = true) : Inv (r ++ l) (after s l r.length) := by
  induction l generalizing r s with
  | nil => simpa [after] using h
  | cons e t ih =>
    rw [ok_cons] at ho
    simp at ho
    have := ih (h.next ho.1) (by rw [List.length_append, List.length_singleton]; exact ho.2)
    rw [List.append_assoc, List.singleton_append, List.length_append, List.length_singleton] at this
    exact this
theorem inv_of {l : List Ev} (ho : okF start l 0 = true) : Inv l (after start l 0) := inv_after inv_start ho
end Go.Proofs.YtggkohkngockoaaDoor

/-
  model.over, model.granted: what they leave of the model's state. No conditions.
-/
import Derived.Test.YtggkohkngockoaaDoorPGrant
namespace Go.Proofs.YtggkohkngockoaaDoor
open Go.ChangeShapes Go.WideShapes Go.ChangeAt Go.RowKit Go.Maps
set_option linter.unusedVariables false

/-- a transaction in the state -/
theorem StAt.one {w : World} {B : Nat} {tag : Nat → Nat} {g : Nat} {s : St} {bs : List Nat} {va vs : Value} {cs : Array Value} (h : StAt w B tag g s bs va vs cs) {i b : Nat} {x : Tx} (hi : bs[i]? = some b) (hx : s.all[i]? = some x) : TxAt w B tag (3 + i) b x := h.2.2.2.2.2.2.2.2.2.2.2.2.2 i b x hi hx
theorem StAt.gtag {w : World} {B : Nat} {tag : Nat → Nat} {g : Nat} {s : St} {bs : List Nat} {va vs : Value} {cs : Array Value} (h : StAt w B tag g s bs va vs cs) : tag g = 0 := h.2.2.2.2.2.2.2.1
theorem StAt.gB {w : World} {B : Nat} {tag : Nat → Nat} {g : Nat} {s : St} {bs : List Nat} {va vs : Value} {cs : Array Value} (h : StAt w B tag g s bs va vs cs) : B ≤ g := h.2.2.2.2.2.2.1
theorem StAt.lens {w : World} {B : Nat} {tag : Nat → Nat} {g : Nat} {s : St} {bs : List Nat} {va vs : Value} {cs : Array Value} (h : StAt w B tag g s bs va vs cs) : bs.length = s.all.length := h.2.2.2.2.2.2.2.2.2.2.2.2.1
/-- a transaction's own block is stored into: the state -/
theorem StAt.store {w : World} {B : Nat} {tag : Nat → Nat} {g : Nat} {s : St} {bs : List Nat} {va vs : Value} {cs : Array Value} (h : StAt w B tag g s bs va vs cs) {i b : Nat} {x y : Tx} (hi : bs[i]? = some b) (hx : s.all[i]? = some x) (j : Nat) (u : Value)
    (hy : ∀ mb v, (oneC x mb v).setIfInBounds j u = oneC y mb v) (hg : y.got = x.got) : StAt (w.setCell ⟨b, j, none⟩ u) B tag g ⟨s.all.set i y, s.dead, s.now, s.serial⟩ bs va vs cs := by
  obtain ⟨mb, v, h1, h2, h3, hr⟩ := h.one hi hx
  refine h.put hi (fun k hk ht => ⟨heap_set w b j u k (fun e => ht (by rw [e]; exact hr.2.2.2.2.2.1)), rfl⟩) ?_
  exact TxAt.set h2 h3 hr (fun k hk hne => heap_set w b j u k hne) (by rw [heap_put w b j _ _ u h1, hy]) hg
theorem StAt.ne {w : World} {B : Nat} {tag : Nat → Nat} {g : Nat} {s : St} {bs : List Nat} {va vs : Value} {cs : Array Value} (h : StAt w B tag g s bs va vs cs) {i b : Nat} {x : Tx} (hi : bs[i]? = some b) (hx : s.all[i]? = some x) : b ≠ g ∧ B ≤ b ∧ b < w.heap.size := by
  obtain ⟨mb, v, h1, _, _, h4, _, _, _, _, h9, _⟩ := h.one hi hx
  exact ⟨fun e => by have := h.gtag; rw [← e, h9] at this; omega, h4, lt_of_block h1⟩

theorem over_st {w : World} {B : Nat} {tag : Nat → Nat} {g : Nat} {s : St} {bs : List Nat} {va vs : Value} {cs : Array Value} (h : StAt w B tag g s bs va vs cs) {i b : Nat} {x : Tx} (hi : bs[i]? = some b) (hx : s.all[i]? = some x) (hc : 1 ≤ x.client ∧ x.client ≤ 8) :
    Calls Tryd.prog 51 #[.pointer (some ⟨g, 0, none⟩), .pointer (some ⟨b, 0, none⟩)] w fun e w' => e = .returned (.tuple #[]) ∧ StX w' B tag g ⟨s.all.set i { x with state := 3 }, s.dead, off s.now x.client false, s.serial⟩ ∧ Below B w w' := by
  obtain ⟨c, hcc⟩ := Int.eq_ofNat_of_zero_le (show 0 ≤ x.client by omega)
  obtain ⟨mb, v, h1, h2, h3, hr⟩ := h.one hi hx
  obtain ⟨nbg, hBb, _⟩ := h.ne hi hx
  obtain ⟨p, hp1, _⟩ := h.2.2.2.2.2.1 c (by omega)
  refine (over_any g b c (.int .i64 x.state) (.pointer p) w (by omega) (by rw [← hcc]; exact heap_cell h1 rfl) (heap_cell h1 rfl) (heap_cell h.1 hp1) (fun j => heap_free h1) (fun j => heap_free h.1) nbg).mono ?_
  rintro e w' ⟨rfl, hh, hb⟩
  have hS := (h.store (y := { x with state := 3 }) hi hx 0 (.int .i64 3) (fun _ _ => rfl) rfl).setNow c (by omega) none
  have hS2 := hS.same (w' := w') (fun k _ => by rw [hh])
  rw [← hcc] at hS2
  refine ⟨rfl, ⟨bs, va, vs, _, hS2⟩, ?_⟩
  · refine ⟨hb.os, hb.tape, hb.output, hb.size, fun k hk => ?_⟩
    rw [hh, heap_set _ g _ _ k (by have := h.gB; omega), heap_set _ b _ _ k (by omega)]

theorem granted_st {w : World} {B : Nat} {tag : Nat → Nat} {g : Nat} {s : St} {bs : List Nat} {va vs : Value} {cs : Array Value} (h : StAt w B tag g s bs va vs cs) (hB : B ≤ w.heap.size) {i b : Nat} {x : Tx} (hi : bs[i]? = some b) (hx : s.all[i]? = some x) {n : Nat} (ho : TxOk x n) (hn : n ≤ 1000) (e : Ev) (hk : e.kind = 3) (hr : resB e.table e.row = true) (p : Int) :
    Calls Tryd.prog 49 #[.pointer (some ⟨b, 0, none⟩), .agg #[.int .i64 e.kind, .int .i64 e.client, .int .i64 e.tx, .int .i64 e.table, .int .i64 e.row, .int .i64 e.mode, .int .i64 e.code], .int .i64 p] w fun r w' => StepOf w w' B g (if grantB x e then 0 else 11) ⟨s.all.set i (x.grant e p), s.dead, s.now, s.serial⟩ r := by
  rw [hk]
  obtain ⟨mb, v, h1, h2, h3, hq⟩ := h.one hi hx
  obtain ⟨q1, q2, q3, q4, q5, q6, q7, q8⟩ := hq
  obtain ⟨wt, wr⟩ := res_wf hr
  have c7 := heap_cell h1 (j := 7) (u := .int .i64 x.mode) rfl
  have c8 := heap_cell h1 (j := 8) (u := .map (some mb)) rfl
  have hl : x.got.length ≤ 1000 := by have := ho.len; omega
  have hrow : e.row = 0 ∨ 0 < e.row := by unfold resB at hr; simp at hr; omega
  have done : ∀ {r : Ending} {w' : World}, r = .returned .nilIface → GrantOf w w' B b mb v { x with opn := false, got := x.got ++ [⟨e.table, e.row, e.mode, p⟩] } → StepOf w w' B g 0 ⟨s.all.set i (x.grant e p), s.dead, s.now, s.serial⟩ r := by
    rintro r w' rfl ⟨v', g1, g2, g3, g4, g5, g6⟩
    have hs := g6.size
    refine step_ok (tag := retag tag w.heap.size (3 + i)) g6 rfl ⟨bs, va, vs, cs, h.put hi (fun k hk ht => ⟨g5 k hk (fun e => ht (by rw [e]; exact q6)) (fun e => ht (by rw [e]; exact q7)) (fun e => ht (q8 k e)), retag_old hk⟩) ?_⟩
    have hv : ∀ k, v'.ownBlock = some k → retag tag w.heap.size (3 + i) k = 3 + i ∧ k ≠ b ∧ k ≠ mb := fun k hk => by
      rcases g4 k hk with h | h
      · exact ⟨(retag_old (h3.lt k h).2).trans (q8 k h), fun e => q4 (by rw [h, e]), fun e => q5 (by rw [h, e])⟩
      · exact ⟨retag_new h, fun e => by have := lt_of_block h1; omega, fun e => by have := has_lt h2; omega⟩
    exact ⟨mb, v', g1, g2, g3, q1, q2, q3, fun e => (hv b e).2.1 rfl, fun e => (hv mb e).2.2 rfl, (retag_old (lt_of_block h1)).trans q6, (retag_old (has_lt h2)).trans q7, fun k hk => (hv k hk).1⟩
  by_cases ha : leastI (modeOf e.table e.row x.got) x.mode = e.mode
  · rcases hrow with h0 | h0
    · have hgB : grantB x e = true := by unfold grantB; rw [decide_eq_true ha]; simp [h0]
      rw [hgB]
      exact (granted_ok1 B b mb v x e.client e.tx e.table e.row e.mode e.code p w h1 h2 h3 hB ⟨q1, q2, q3, q4, q5⟩ ho.got ho.mode wt wr hl ha (by omega)).mono fun r w' ⟨a, c⟩ => done a c
    · by_cases hn0 : needE x.mode = 0
      · cases hcv : covB (modeOf e.table 0 x.got) (needI x.mode) with
        | true =>
          have hgB : grantB x e = true := by unfold grantB; simp [ha, hn0, hcv]
          rw [hgB]
          exact (granted_ok2 B b mb v x e.client e.tx e.table e.row e.mode e.code p w h1 h2 h3 hB ⟨q1, q2, q3, q4, q5⟩ ho.got ho.mode wt wr hl ha h0 hn0 hcv).mono fun r w' ⟨a, c⟩ => done a c
        | false =>
          have hgB : grantB x e = false := by unfold grantB; simp [ha, hn0, hcv]; omega
          rw [hgB]
          refine (granted_no3 b mb x.got x.mode e.client e.tx e.table e.row e.mode e.code p w c7 c8 h2 ho.got ho.mode wt wr ha h0 hn0 hcv).mono ?_
          rintro r w' ⟨rfl, hb⟩
          exact step_bad hb hB rfl (by decide)
      · have hgB : grantB x e = false := by unfold grantB; simp [ha, hn0]; omega
        rw [hgB]
        refine (granted_no2 b mb x.got x.mode e.client e.tx e.table e.row e.mode e.code p w c7 c8 h2 ho.got ho.mode wt wr ha h0 hn0).mono ?_
        rintro r w' ⟨rfl, hb⟩
        exact step_bad hb hB rfl (by decide)
  · have hgB : grantB x e = false := by unfold grantB; simp [ha]
    rw [hgB]
    refine (granted_no b mb x.got x.mode e.client e.tx e.table e.row e.mode e.code p w c7 c8 h2 ho.got ho.mode wt wr ha).mono ?_
    rintro r w' ⟨rfl, hb⟩
    exact step_bad hb hB rfl (by decide)
end Go.Proofs.YtggkohkngockoaaDoor

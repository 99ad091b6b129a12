/-
  The model of chapter 20 in memory: a transaction, the world. Blocks bear tags: what is turned of one tag leaves the others. No conditions.
-/
import Derived.Test.YtggkohkngockoaaDoorPlayW
import Derived.OneCell
namespace Go.Proofs.YtggkohkngockoaaDoor
open Go.ChangeShapes Go.WideShapes Go.ChangeAt Go.RowKit Go.Maps
set_option linter.unusedVariables false

theorem own_at {w w' : World} {B : Nat} {e : TypeId} {s n : Nat} {v : Value} {xs : List Value} (h : w.ownsRow B e s v n xs) (hb : ∀ k, v.ownBlock = some k → w'.heap[k]? = w.heap[k]?) : w'.ownsRow B e s v n xs := by
  rcases h.2 with ⟨rfl, h0⟩ | ⟨g, cap, cur, rfl, hg, hh, hc⟩
  · exact ⟨h.1, .inl ⟨rfl, h0⟩⟩
  · exact ⟨h.1, .inr ⟨g, cap, cur, rfl, hg, (hb g rfl).trans hh, hc⟩⟩
theorem has_at {w w' : World} {mb : Nat} {l : List Got} (h : HasX w mb l) (hb : w'.heap[mb]? = w.heap[mb]?) : HasX w' mb l := by
  obtain ⟨es, c, hh, r⟩ := h
  exact ⟨es, c, hb.trans hh, r⟩
theorem has_lt {w : World} {mb : Nat} {l : List Got} (h : HasX w mb l) : mb < w.heap.size := World.ownsMap.lt h
theorem lt_of_block {w : World} {g : Nat} {o : Obj} (h : w.heap[g]? = some o) : g < w.heap.size := (Array.getElem?_eq_some_iff.1 h).1

/-- new blocks get the tag T -/
def retag (tag : Nat → Nat) (n T : Nat) : Nat → Nat := fun k => if k < n then tag k else T
theorem retag_old {tag : Nat → Nat} {n T k : Nat} (h : k < n) : retag tag n T k = tag k := if_pos h
theorem retag_new {tag : Nat → Nat} {n T k : Nat} (h : n ≤ k) : retag tag n T k = T := if_neg (by omega)

def oneT : TypeId := 115
def oneC (x : Tx) (mb : Nat) (v : Value) : Array Value :=
  #[.int .i64 x.state, .int .i64 x.client, .int .i64 x.fin, .bool x.asked, .bool x.opn, .int .i64 x.table, .int .i64 x.row, .int .i64 x.mode, .map (some mb), v]
/-- block b holds the transaction x; all its blocks have the tag T -/
def TxAt (w : World) (B : Nat) (tag : Nat → Nat) (T b : Nat) (x : Tx) : Prop :=
  ∃ mb v, w.heap[b]? = some (.cells (oneC x mb v) 115 (0, 0)) ∧ HasX w mb x.got ∧ w.ownsRow B 122 4 v x.got.length (flatG x.got) ∧ B ≤ b ∧ B ≤ mb ∧ mb ≠ b ∧
    v.ownBlock ≠ some b ∧ v.ownBlock ≠ some mb ∧ tag b = T ∧ tag mb = T ∧ ∀ k, v.ownBlock = some k → tag k = T
theorem TxAt.keep {w w' : World} {B : Nat} {tag tag' : Nat → Nat} {T b : Nat} {x : Tx} (h : TxAt w B tag T b x) (hb : ∀ k, k < w.heap.size → tag k = T → w'.heap[k]? = w.heap[k]? ∧ tag' k = T) : TxAt w' B tag' T b x := by
  obtain ⟨mb, v, h1, h2, h3, h4, h5, h6, h7, h8, h9, h10, h11⟩ := h
  have lb := lt_of_block h1
  have lm := has_lt h2
  exact ⟨mb, v, (hb b lb h9).1.trans h1, has_at h2 (hb mb lm h10).1, own_at h3 (fun k hk => (hb k (h3.lt k hk).2 (h11 k hk)).1), h4, h5, h6, h7, h8, (hb b lb h9).2, (hb mb lm h10).2, fun k hk => (hb k (h3.lt k hk).2 (h11 k hk)).2⟩
/-- its cells -/
theorem TxAt.at {w : World} {B : Nat} {tag : Nat → Nat} {T b : Nat} {x : Tx} (h : TxAt w B tag T b x) : ∃ mb A c, b < w.heap.size ∧ w.cell? ⟨b, 0, Option.none⟩ = some (.int .i64 x.state) ∧ w.cell? ⟨b, 1, Option.none⟩ = some (.int .i64 x.client) ∧ w.cell? ⟨b, 2, Option.none⟩ = some (.int .i64 x.fin) ∧ w.cell? ⟨b, 3, Option.none⟩ = some (.bool x.asked) ∧
    w.cell? ⟨b, 4, Option.none⟩ = some (.bool x.opn) ∧ w.cell? ⟨b, 5, Option.none⟩ = some (.int .i64 x.table) ∧ w.cell? ⟨b, 6, Option.none⟩ = some (.int .i64 x.row) ∧ w.cell? ⟨b, 7, Option.none⟩ = some (.int .i64 x.mode) ∧ w.cell? ⟨b, 8, Option.none⟩ = some (.map (some mb)) ∧
    w.cell? ⟨b, 9, Option.none⟩ = some (.slice A x.got.length c) ∧ HasX w mb x.got ∧ RdG w A x.got ∧ x.got.length ≤ c := by
  obtain ⟨mb, v, h1, h2, h3, _⟩ := h
  obtain ⟨_, A, c, rfl, hc, hr⟩ := rdg_of_own h3
  refine ⟨mb, A, c, lt_of_block h1, ?_, ?_, ?_, ?_, ?_, ?_, ?_, ?_, ?_, ?_, h2, hr, hc⟩ <;> simp [World.cell?, h1, oneC]

/-- the pointers of transactions -/
def ptrV (bs : List Nat) : List Value := bs.map fun b => .pointer (some ⟨b, 0, Option.none⟩)
/-- the world's block: g -/
def StAt (w : World) (B : Nat) (tag : Nat → Nat) (g : Nat) (s : St) (bs : List Nat) (va vs : Value) (cs : Array Value) : Prop :=
  w.heap[g]? = some (.cells cs 61 (0, 0)) ∧ cs.size = 20 ∧ cs[0]? = some va ∧ cs[19]? = some vs ∧ (∀ k, k < 9 → cs[1 + k]? = some (.bool (s.dead k))) ∧ (∀ k, k < 9 → ∃ p : Option Addr, cs[10 + k]? = some (.pointer p) ∧ p.isSome = s.now k) ∧
  B ≤ g ∧ tag g = 0 ∧ w.ownsRow B 58 1 va bs.length (ptrV bs) ∧ (∀ k, va.ownBlock = some k → tag k = 1) ∧ w.ownsRow B 3 1 vs s.serial.length (numV .i64 s.serial) ∧ (∀ k, vs.ownBlock = some k → tag k = 2) ∧
  bs.length = s.all.length ∧ ∀ i b x, bs[i]? = some b → s.all[i]? = some x → TxAt w B tag (3 + i) b x
def StX (w : World) (B : Nat) (tag : Nat → Nat) (g : Nat) (s : St) : Prop := ∃ bs va vs cs, StAt w B tag g s bs va vs cs
/-- blocks that are not changed -/
theorem StAt.below {w w' : World} {B : Nat} {tag : Nat → Nat} {g : Nat} {s : St} {bs : List Nat} {va vs : Value} {cs : Array Value} (h : StAt w B tag g s bs va vs cs) (hb : Below w.heap.size w w') : StAt w' B tag g s bs va vs cs := by
  obtain ⟨h1, h2, h3, h4, h5, h6, h7, h8, h9, h10, h11, h12, h13, h14⟩ := h
  exact ⟨(hb.block g (lt_of_block h1)).trans h1, h2, h3, h4, h5, h6, h7, h8, own_below h9 hb, h10, own_below h11 hb, h12, h13, fun i b x hi hx => (h14 i b x hi hx).keep fun k hk ht => ⟨hb.block k hk, ht⟩⟩
theorem StX.below {w w' : World} {B : Nat} {tag : Nat → Nat} {g : Nat} {s : St} (h : StX w B tag g s) (hb : Below w.heap.size w w') : StX w' B tag g s := by
  obtain ⟨bs, va, vs, cs, h⟩ := h
  exact ⟨bs, va, vs, cs, h.below hb⟩
theorem own1_cell {w : World} {B : Nat} {e : TypeId} {v : Value} {n : Nat} {xs : List Value} (h : w.ownsRow B e 1 v n xs) : xs.length = n ∧ ∃ g c, (0 < n → v = .slice (some ⟨g, 0, Option.none⟩) n c ∧ g < w.heap.size) ∧ (∃ A, v = .slice A n c) ∧ n ≤ c ∧ c ≤ maxLen ∧ ∀ i u, xs[i]? = some u → w.cell? ⟨g, i, Option.none⟩ = some u := by
  have hl := h.1
  rw [Nat.mul_one] at hl
  refine ⟨hl, ?_⟩
  rcases h.2 with ⟨rfl, h0⟩ | ⟨g, cap, cur, rfl, hg, hh, hc, hm, _⟩
  · subst h0
    exact ⟨0, 0, fun h => absurd h (by decide), ⟨_, rfl⟩, Nat.le_refl _, Nat.zero_le _, fun i u hu => by rw [List.eq_nil_of_length_eq_zero hl] at hu; simp at hu⟩
  · refine ⟨g, cap, fun _ => ⟨rfl, lt_of_block hh⟩, ⟨_, rfl⟩, hc, hm, fun i u hu => ?_⟩
    have := h.cells (g := g) rfl i u hu
    rwa [add0] at this
/-- the world's cells -/
theorem StAt.at {w : World} {B : Nat} {tag : Nat → Nat} {g : Nat} {s : St} {bs : List Nat} {va vs : Value} {cs : Array Value} (h : StAt w B tag g s bs va vs cs) : g < w.heap.size ∧ w.cell? ⟨g, 0, Option.none⟩ = some va ∧ w.cell? ⟨g, 19, Option.none⟩ = some vs ∧ (∀ k, k < 9 → w.cell? ⟨g, 1 + k, Option.none⟩ = some (.bool (s.dead k))) ∧
    (∀ k, k < 9 → ∃ p : Option Addr, w.cell? ⟨g, 10 + k, Option.none⟩ = some (.pointer p) ∧ p.isSome = s.now k) := by
  obtain ⟨h1, h2, h3, h4, h5, h6, _⟩ := h
  refine ⟨lt_of_block h1, ?_, ?_, fun k hk => ?_, fun k hk => ?_⟩
  · simpa [World.cell?, h1] using h3
  · simpa [World.cell?, h1] using h4
  · simpa [World.cell?, h1] using h5 k hk
  · simpa [World.cell?, h1] using h6 k hk
theorem heap_set (w : World) (g j : Nat) (u : Value) (k : Nat) (h : k ≠ g) : (w.setCell ⟨g, j, Option.none⟩ u).heap[k]? = w.heap[k]? := Below.heap_setCell w ⟨g, j, Option.none⟩ u k h
end Go.Proofs.YtggkohkngockoaaDoor

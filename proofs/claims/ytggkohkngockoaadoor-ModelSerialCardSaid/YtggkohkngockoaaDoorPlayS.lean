/-
  The model of chapter 20 in memory: what holds behind its stores. No conditions.
-/
import Derived.Test.YtggkohkngockoaaDoorPlayOk
import Derived.Test.YtggkohkngockoaaDoorErr
import Derived.Deep.AppendLies
import Derived.Maps.OwnSet
namespace Go.Proofs.YtggkohkngockoaaDoor
open Go.ChangeShapes Go.WideShapes Go.ChangeAt Go.RowKit Go.Maps
set_option linter.unusedVariables false

/-- what an event leaves: an error's number, or the state -/
def StepOf (w w' : World) (B g : Nat) (k : Int) (s : St) (e : Ending) : Prop := e = .returned (errV k) ∧ Below B w w' ∧ (k = 0 → ∃ tag, StX w' B tag g s)
theorem step_bad {w w' : World} {B g : Nat} {k k' : Int} {s : St} (hb : Below w.heap.size w w') (hB : B ≤ w.heap.size) (h : k' = k) (h0 : k ≠ 0) : StepOf w w' B g k' s (.returned (.iface 51 (.int .i64 k))) := by
  subst h
  exact ⟨by unfold errV; rw [if_neg h0], hb.mono hB, fun h => absurd h h0⟩
theorem step_ok {w w' : World} {B g : Nat} {k : Int} {s : St} {tag : Nat → Nat} (hb : Below B w w') (h : k = 0) (hs : StX w' B tag g s) : StepOf w w' B g k s (.returned .nilIface) := by
  subst h
  exact ⟨rfl, hb, fun _ => ⟨tag, hs⟩⟩
theorem StepOf.from {w w1 w' : World} {B g : Nat} {k : Int} {s : St} {e : Ending} (h : StepOf w1 w' B g k s e) (hb : Below w.heap.size w w1) (hB : B ≤ w.heap.size) : StepOf w w' B g k s e := ⟨h.1, (hb.mono hB).trans h.2.1, h.2.2⟩

theorem heap_cell {w : World} {g j : Nat} {cs : Array Value} {t : TypeId} {u : Value} (h : w.heap[g]? = some (.cells cs t (0, 0))) (hc : cs[j]? = some u) : w.cell? ⟨g, j, Option.none⟩ = some u := by simp [World.cell?, h, hc]
theorem heap_free {w : World} {g j : Nat} {cs : Array Value} {t : TypeId} (h : w.heap[g]? = some (.cells cs t (0, 0))) : w.frozen? ⟨g, j, Option.none⟩ = false := by simp [World.frozen?, h]
theorem heap_put (w : World) (g j : Nat) (cs : Array Value) (t : TypeId) (v : Value) (hg : w.heap[g]? = some (.cells cs t (0, 0))) : (w.setCell ⟨g, j, Option.none⟩ v).heap[g]? = some (.cells (cs.setIfInBounds j v) t (0, 0)) := heap_setCell_same w g j cs t v hg
theorem size_set (w : World) (a : Addr) (v : Value) : (w.setCell a v).heap.size = w.heap.size := by simp

theorem append_keep {w2 W w7 : World} {v : Value} {g : Nat} {o : Obj} (hg : W.grownBy w7 v.ownBlock) (hb : Below w2.heap.size w2 W) (hgb : w2.heap[g]? = some o) (hne : v.ownBlock ≠ some g) : w7.heap[g]? = some o := by
  have hl := (Array.getElem?_eq_some_iff.1 hgb).1
  exact (hg.block g (Nat.lt_of_lt_of_le hl hb.size) (fun e => hne e.symm)).trans ((hb.block g hl).trans hgb)

theorem append_other {w2 W w7 : World} {v : Value} {k : Nat} (hg : W.grownBy w7 v.ownBlock) (hb : Below w2.heap.size w2 W) (hk : k < w2.heap.size) (hne : v.ownBlock ≠ some k) : w7.heap[k]? = w2.heap[k]? :=
  (hg.block k (Nat.lt_of_lt_of_le hk hb.size) (fun e => hne e.symm)).trans (hb.block k hk)
theorem append_below {w w2 W w7 : World} {v : Value} {B : Nat} (hg : W.grownBy w7 v.ownBlock) (hb : Below w2.heap.size w2 W) (h : Below B w w2) (hB : B ≤ w2.heap.size) (hv : ∀ k, v.ownBlock = some k → B ≤ k) : Below B w w7 :=
  (h.trans (hb.mono hB)).grown hg (Nat.le_trans hB hb.size) hv

/-- a transaction's block is stored into -/
theorem TxAt.set {w w' : World} {B : Nat} {tag : Nat → Nat} {T b : Nat} {x y : Tx} {mb : Nat} {v : Value} (h2 : HasX w mb x.got) (h3 : w.ownsRow B 122 4 v x.got.length (flatG x.got)) (hr : B ≤ b ∧ B ≤ mb ∧ mb ≠ b ∧ v.ownBlock ≠ some b ∧ v.ownBlock ≠ some mb ∧ tag b = T ∧ tag mb = T ∧ ∀ k, v.ownBlock = some k → tag k = T)
    (hb : ∀ k, k < w.heap.size → k ≠ b → w'.heap[k]? = w.heap[k]?) (hx : w'.heap[b]? = some (.cells (oneC y mb v) 115 (0, 0))) (hy : y.got = x.got) : TxAt w' B tag T b y := by
  obtain ⟨r1, r2, r3, r4, r5, r6, r7, r8⟩ := hr
  exact ⟨mb, v, hx, by rw [hy]; exact has_at h2 (hb mb (has_lt h2) r3), by rw [hy]; exact own_at h3 (fun k hk => hb k (h3.lt k hk).2 (fun e => r4 (by rw [hk, e]))), r1, r2, r3, r4, r5, r6, r7, r8⟩

theorem StAt.put {w w' : World} {B : Nat} {tag tag' : Nat → Nat} {g : Nat} {s : St} {bs : List Nat} {va vs : Value} {cs : Array Value} (h : StAt w B tag g s bs va vs cs) {i b : Nat} {y : Tx} (hi : bs[i]? = some b)
    (hk : ∀ k, k < w.heap.size → tag k ≠ 3 + i → w'.heap[k]? = w.heap[k]? ∧ tag' k = tag k) (hy : TxAt w' B tag' (3 + i) b y) : StAt w' B tag' g ⟨s.all.set i y, s.dead, s.now, s.serial⟩ bs va vs cs := by
  obtain ⟨h1, h2, h3, h4, h5, h6, h7, h8, h9, h10, h11, h12, h13, h14⟩ := h
  have tg := hk g (lt_of_block h1) (by rw [h8]; omega)
  have ka := fun k (hk' : va.ownBlock = some k) => hk k (h9.lt k hk').2 (by rw [h10 k hk']; omega)
  have ks := fun k (hk' : vs.ownBlock = some k) => hk k (h11.lt k hk').2 (by rw [h12 k hk']; omega)
  refine ⟨tg.1.trans h1, h2, h3, h4, h5, h6, h7, tg.2.trans h8, own_at h9 (fun k e => (ka k e).1), fun k e => (ka k e).2.trans (h10 k e), own_at h11 (fun k e => (ks k e).1), fun k e => (ks k e).2.trans (h12 k e), by simpa using h13, fun j c x hj hx => ?_⟩
  simp only [List.getElem?_set] at hx
  by_cases hji : i = j
  · subst hji
    rw [hi] at hj
    cases hj
    rw [if_pos rfl] at hx
    split at hx
    · cases hx; exact hy
    · cases hx
  · rw [if_neg hji] at hx
    refine (h14 j c x hj hx).keep fun k hk1 hk2 => ?_
    have := hk k hk1 (by omega)
    exact ⟨this.1, this.2.trans hk2⟩
/-- the world's block is stored into -/
theorem StAt.setw {w w' : World} {B : Nat} {tag : Nat → Nat} {g : Nat} {s : St} {bs : List Nat} {va vs : Value} {cs cs' : Array Value} (h : StAt w B tag g s bs va vs cs) {d n : Nat → Bool} (hk : ∀ k, k < w.heap.size → k ≠ g → w'.heap[k]? = w.heap[k]?)
    (hg : w'.heap[g]? = some (.cells cs' 61 (0, 0))) (hc : cs'.size = 20 ∧ cs'[0]? = some va ∧ cs'[19]? = some vs ∧ (∀ k, k < 9 → cs'[1 + k]? = some (.bool (d k))) ∧ (∀ k, k < 9 → ∃ p : Option Addr, cs'[10 + k]? = some (.pointer p) ∧ p.isSome = n k)) : StAt w' B tag g ⟨s.all, d, n, s.serial⟩ bs va vs cs' := by
  obtain ⟨h1, h2, h3, h4, h5, h6, h7, h8, h9, h10, h11, h12, h13, h14⟩ := h
  obtain ⟨c1, c2, c3, c4, c5⟩ := hc
  have ng : ∀ k T, tag k = T + 1 → k ≠ g := fun k T e e' => by rw [e', h8] at e; omega
  refine ⟨hg, c1, c2, c3, c4, c5, h7, h8, own_at h9 (fun k e => hk k (h9.lt k e).2 (ng k 0 (h10 k e))), h10, own_at h11 (fun k e => hk k (h11.lt k e).2 (ng k 1 (h12 k e))), h12, h13, fun j c x hj hx => ?_⟩
  exact (h14 j c x hj hx).keep fun k hk1 hk2 => ⟨hk k hk1 (ng k (2 + j) (by omega)), hk2⟩
theorem StAt.same {w w' : World} {B : Nat} {tag : Nat → Nat} {g : Nat} {s : St} {bs : List Nat} {va vs : Value} {cs : Array Value} (h : StAt w B tag g s bs va vs cs) (hk : ∀ k, k < w.heap.size → w'.heap[k]? = w.heap[k]?) : StAt w' B tag g s bs va vs cs := by
  obtain ⟨h1, h2, h3, h4, h5, h6, h7, h8, h9, h10, h11, h12, h13, h14⟩ := h
  refine ⟨(hk g (lt_of_block h1)).trans h1, h2, h3, h4, h5, h6, h7, h8, own_at h9 (fun k e => hk k (h9.lt k e).2), h10, own_at h11 (fun k e => hk k (h11.lt k e).2), h12, h13, fun j c x hj hx => ?_⟩
  exact (h14 j c x hj hx).keep fun k hk1 hk2 => ⟨hk k hk1, hk2⟩
theorem off_at (f : Nat → Bool) (c k : Nat) (v : Bool) : off f c v k = if k = c then v else f k := by
  unfold off
  by_cases h : k = c
  · rw [if_pos (by omega), if_pos h]
  · rw [if_neg (by omega), if_neg h]
/-- a client's place in a table is stored into -/
theorem StAt.setDead {w : World} {B : Nat} {tag : Nat → Nat} {g : Nat} {s : St} {bs : List Nat} {va vs : Value} {cs : Array Value} (h : StAt w B tag g s bs va vs cs) (c : Nat) (hc : c < 9) (v : Bool) : StAt (w.setCell ⟨g, 1 + c, Option.none⟩ (.bool v)) B tag g ⟨s.all, off s.dead c v, s.now, s.serial⟩ bs va vs (cs.setIfInBounds (1 + c) (.bool v)) := by
  have h0 := h
  obtain ⟨h1, h2, h3, h4, h5, h6, _⟩ := h
  refine h0.setw (fun k hk hne => heap_set w g _ _ k hne) (heap_put w g _ cs _ _ h1) ⟨by simpa using h2, ?_, ?_, fun k hk => ?_, fun k hk => ?_⟩
  · rw [Array.getElem?_setIfInBounds_ne (by omega)]; exact h3
  · rw [Array.getElem?_setIfInBounds_ne (by omega)]; exact h4
  · rw [off_at]
    by_cases e : k = c
    · subst e
      rw [if_pos rfl, Array.getElem?_setIfInBounds_self_of_lt (by omega)]
    · rw [if_neg e, Array.getElem?_setIfInBounds_ne (by omega)]; exact h5 k hk
  · rw [Array.getElem?_setIfInBounds_ne (by omega)]; exact h6 k hk
theorem StAt.setNow {w : World} {B : Nat} {tag : Nat → Nat} {g : Nat} {s : St} {bs : List Nat} {va vs : Value} {cs : Array Value} (h : StAt w B tag g s bs va vs cs) (c : Nat) (hc : c < 9) (p : Option Addr) : StAt (w.setCell ⟨g, 10 + c, Option.none⟩ (.pointer p)) B tag g ⟨s.all, s.dead, off s.now c p.isSome, s.serial⟩ bs va vs (cs.setIfInBounds (10 + c) (.pointer p)) := by
  have h0 := h
  obtain ⟨h1, h2, h3, h4, h5, h6, _⟩ := h
  refine h0.setw (fun k hk hne => heap_set w g _ _ k hne) (heap_put w g _ cs _ _ h1) ⟨by simpa using h2, ?_, ?_, fun k hk => ?_, fun k hk => ?_⟩
  · rw [Array.getElem?_setIfInBounds_ne (by omega)]; exact h3
  · rw [Array.getElem?_setIfInBounds_ne (by omega)]; exact h4
  · rw [Array.getElem?_setIfInBounds_ne (by omega)]; exact h5 k hk
  · rw [off_at]
    by_cases e : k = c
    · subst e
      exact ⟨p, Array.getElem?_setIfInBounds_self_of_lt (by omega), by rw [if_pos rfl]⟩
    · obtain ⟨q, h1, h2⟩ := h6 k hk
      exact ⟨q, by rw [Array.getElem?_setIfInBounds_ne (by omega)]; exact h1, by rw [if_neg e]; exact h2⟩
/-- the row of the committed ones is stored anew -/
theorem StAt.setSer {w w7 : World} {B : Nat} {tag : Nat → Nat} {g : Nat} {s : St} {bs : List Nat} {va vs v' : Value} {cs : Array Value} {ser : List Int} (h : StAt w B tag g s bs va vs cs) (hg : w.grownBy w7 vs.ownBlock) (ho : w7.ownsRow B 3 1 v' ser.length (numV .i64 ser)) (hat : ∀ k, v'.ownBlock = some k → vs.ownBlock = some k ∨ w.heap.size ≤ k) :
    ∃ tag' cs', StAt (w7.setCell ⟨g, 19, Option.none⟩ v') B tag' g ⟨s.all, s.dead, s.now, ser⟩ bs va v' cs' := by
  obtain ⟨h1, h2, h3, h4, h5, h6, h7, h8, h9, h10, h11, h12, h13, h14⟩ := h
  have lg := lt_of_block h1
  have nv : ∀ k, tag k ≠ 2 → vs.ownBlock ≠ some k := fun k e e' => e (h12 k e')
  have kp : ∀ k, k < w.heap.size → tag k ≠ 2 → k ≠ g → (w7.setCell ⟨g, 19, Option.none⟩ v').heap[k]? = w.heap[k]? := fun k hk ht hne => (heap_set w7 g 19 v' k hne).trans (hg.block k hk (fun e => nv k ht e.symm))
  have g7 := (hg.block g lg (fun e => nv g (by rw [h8]; omega) e.symm)).trans h1
  have ng : ∀ k T, tag k = T + 1 → k ≠ g := fun k T e e' => by rw [e', h8] at e; omega
  have vg : v'.ownBlock ≠ some g := fun e => by
    rcases hat g e with h | h
    · exact nv g (by rw [h8]; omega) h
    · omega
  refine ⟨retag tag w.heap.size 2, cs.setIfInBounds 19 v', heap_put w7 g 19 cs _ v' g7, by simpa using h2, ?_, Array.getElem?_setIfInBounds_self_of_lt (by omega), fun k hk => ?_, fun k hk => ?_, h7, (retag_old lg).trans h8, own_at h9 (fun k e => kp k (h9.lt k e).2 (by rw [h10 k e]; omega) (ng k 0 (h10 k e))), fun k e => (retag_old (h9.lt k e).2).trans (h10 k e), ?_, fun k e => ?_, h13, fun j c x hj hx => ?_⟩
  · rw [Array.getElem?_setIfInBounds_ne (by omega)]; exact h3
  · rw [Array.getElem?_setIfInBounds_ne (by omega)]; exact h5 k hk
  · rw [Array.getElem?_setIfInBounds_ne (by omega)]; exact h6 k hk
  · exact own_at ho fun k e => heap_set w7 g 19 v' k (fun e' => vg (by rw [e, e']))
  · rcases hat k e with h | h
    · exact (retag_old (h11.lt k h).2).trans (h12 k h)
    · exact retag_new h
  · exact (h14 j c x hj hx).keep fun k hk1 hk2 => ⟨kp k hk1 (by omega) (ng k (2 + j) (by omega)), (retag_old hk1).trans hk2⟩
/-- one more transaction -/
theorem StAt.more {w w1 w7 : World} {B : Nat} {tag : Nat → Nat} {g : Nat} {s : St} {bs : List Nat} {va vs v' : Value} {cs : Array Value} (h : StAt w B tag g s bs va vs cs) {b mb : Nat} {x : Tx} (hB : B ≤ w.heap.size) (h1w : Below w.heap.size w w1) (hb : w.heap.size ≤ b ∧ b < w1.heap.size ∧ w.heap.size ≤ mb ∧ mb < w1.heap.size ∧ mb ≠ b)
    (hx : w1.heap[b]? = some (.cells (oneC x mb (.slice none 0 0)) 115 (0, 0))) (hm : HasX w1 mb []) (hxg : x.got = []) (hg : w1.grownBy w7 va.ownBlock) (ho : w7.ownsRow B 58 1 v' (bs.length + 1) (ptrV bs ++ [.pointer (some ⟨b, 0, Option.none⟩)])) (hat : ∀ k, v'.ownBlock = some k → va.ownBlock = some k ∨ w1.heap.size ≤ k) :
    ∃ tag' cs', StAt (w7.setCell ⟨g, 0, Option.none⟩ v') B tag' g ⟨s.all ++ [x], s.dead, s.now, s.serial⟩ (bs ++ [b]) v' vs cs' := by
  obtain ⟨h1, h2, h3, h4, h5, h6, h7, h8, h9, h10, h11, h12, h13, h14⟩ := h
  have lg := lt_of_block h1
  have hs1 := h1w.size
  have nv : ∀ k, tag k ≠ 1 → va.ownBlock ≠ some k := fun k e e' => e (h10 k e')
  have kp : ∀ k, k < w.heap.size → tag k ≠ 1 → k ≠ g → (w7.setCell ⟨g, 0, Option.none⟩ v').heap[k]? = w.heap[k]? := fun k hk ht hne => (heap_set w7 g 0 v' k hne).trans ((hg.block k (by omega) (fun e => nv k ht e.symm)).trans (h1w.block k hk))
  have g7 := (hg.block g (by omega) (fun e => nv g (by rw [h8]; omega) e.symm)).trans ((h1w.block g lg).trans h1)
  have ng : ∀ k T, tag k = T + 1 → k ≠ g := fun k T e e' => by rw [e', h8] at e; omega
  have vl : ∀ k, va.ownBlock = some k → k < w.heap.size := fun k e => (h9.lt k e).2
  have vg : v'.ownBlock ≠ some g := fun e => by
    rcases hat g e with h | h
    · exact nv g (by rw [h8]; omega) h
    · omega
  let tag' := retag (retag tag w.heap.size (3 + bs.length)) w1.heap.size 1
  have to : ∀ k, k < w.heap.size → tag' k = tag k := fun k hk => (retag_old (by omega)).trans (retag_old hk)
  have tn : ∀ k, w.heap.size ≤ k → k < w1.heap.size → tag' k = 3 + bs.length := fun k hk hk' => (retag_old hk').trans (retag_new hk)
  have nb : ∀ k, w.heap.size ≤ k → k < w1.heap.size → (w7.setCell ⟨g, 0, Option.none⟩ v').heap[k]? = w1.heap[k]? := fun k hk hk' => (heap_set w7 g 0 v' k (by omega)).trans (hg.block k hk' (fun e => by have := vl k e.symm; omega))
  refine ⟨tag', cs.setIfInBounds 0 v', heap_put w7 g 0 cs _ v' g7, by simpa using h2, Array.getElem?_setIfInBounds_self_of_lt (by omega), ?_, fun k hk => ?_, fun k hk => ?_, h7, (to g lg).trans h8, ?_, fun k e => ?_, own_at h11 (fun k e => kp k (h11.lt k e).2 (by rw [h12 k e]; omega) (ng k 1 (h12 k e))), fun k e => (to k (h11.lt k e).2).trans (h12 k e), by simp [h13], fun j c y hj hy => ?_⟩
  · rw [Array.getElem?_setIfInBounds_ne (by omega)]; exact h4
  · rw [Array.getElem?_setIfInBounds_ne (by omega)]; exact h5 k hk
  · rw [Array.getElem?_setIfInBounds_ne (by omega)]; exact h6 k hk
  · have : ptrV (bs ++ [b]) = ptrV bs ++ [.pointer (some ⟨b, 0, Option.none⟩)] := by simp [ptrV]
    rw [this, List.length_append, List.length_singleton]
    exact own_at ho fun k e => heap_set w7 g 0 v' k (fun e' => vg (by rw [e, e']))
  · rcases hat k e with h | h
    · exact (to k (vl k h)).trans (h10 k h)
    · exact retag_new h
  · rw [List.getElem?_append] at hj
    split at hj
    · next hlt =>
      rw [List.getElem?_append_left (by omega)] at hy
      exact (h14 j c y hj hy).keep fun k hk1 hk2 => ⟨kp k hk1 (by omega) (ng k (2 + j) (by omega)), (to k hk1).trans hk2⟩
    · next hge =>
      rw [List.getElem?_singleton] at hj
      split at hj
      · next he =>
        cases hj
        have hj' : j = bs.length := by omega
        subst hj'
        rw [h13, List.getElem?_append_right (Nat.le_refl _), Nat.sub_self] at hy
        simp at hy
        subst hy
        obtain ⟨b1, b2, b3, b4, b5⟩ := hb
        refine ⟨mb, .slice none 0 0, (nb b b1 b2).trans hx, by rw [hxg]; exact has_at hm (nb mb b3 b4), by rw [hxg]; exact ⟨rfl, .inl ⟨rfl, rfl⟩⟩, by omega, by omega, b5, by simp [Value.ownBlock], by simp [Value.ownBlock], tn b b1 b2, tn mb b3 b4, fun k e => by simp [Value.ownBlock] at e⟩
      · cases hj
end Go.Proofs.YtggkohkngockoaaDoor

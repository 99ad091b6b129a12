/-
  slices.Values, slices.AppendSeq, slices.Collect over resources.
-/
import Derived.Test.YtonphamahnagfaaDoorRows
import Derived.RangeFuncNested
import Derived.RangeFuncBound
import Derived.RangeFuncCalls
import Derived.RangeFuncLeaves
import Derived.RangeFuncBox
import Derived.Shelf.Abstract
import Derived.Shelf.RegionOpen
import Derived.WalkKit
import Derived.OwnWalkIn
import Derived.TacticsInMore
import Derived.LoopNIn
import Derived.LoopIn
import Derived.Maps.AppendAt
import Derived.Lib.Hide
namespace Go.Proofs.YtonphamahnagfaaDoor
open Go.RowKit Go.Shelf
set_option linter.unusedVariables false
set_option linter.unusedSimpArgs false
attribute [local go_sem] Oper.semAt_some

/-- a resource: its table, its row -/
abbrev R2 := Int × Int
def encR (x : R2) : List Value := [.int .i64 x.1, .int .i64 x.2]
def aggR (x : R2) : Value := .agg #[.int .i64 x.1, .int .i64 x.2]
def flatR (rs : List R2) : List Value := (rs.map encR).flatten
theorem flatR_length (rs : List R2) : (flatR rs).length = 2 * rs.length := by
  induction rs with
  | nil => rfl
  | cons a l ih => simp [flatR, encR] at ih ⊢; omega
theorem flatR_snoc (rs : List R2) (x : R2) : flatR (rs ++ [x]) = flatR rs ++ [.int .i64 x.1, .int .i64 x.2] := by simp [flatR, encR]
theorem flatR_append (a b : List R2) : flatR (a ++ b) = flatR a ++ flatR b := by simp [flatR]
/-- the slice value (A, its length) holds the resources rs, in a block below n0 -/
def RdR0 (n0 : Nat) (w : World) (A : Option Addr) (rs : List R2) : Prop :=
  ∃ g o, (0 < rs.length → A = some ⟨g, o, none⟩ ∧ g < n0) ∧ ∀ j, j < rs.length → w.cell? ⟨g, o + j * 2, none⟩ = some (.int .i64 (rs.getD j (0, 0)).1) ∧ w.cell? ⟨g, o + j * 2 + 1, none⟩ = some (.int .i64 (rs.getD j (0, 0)).2)
theorem RdR0.below {n0 : Nat} {w w' : World} {A : Option Addr} {rs : List R2} (h : RdR0 n0 w A rs) (hb : Below n0 w w') : RdR0 n0 w' A rs := by
  obtain ⟨g, o, hA, hc⟩ := h
  exact ⟨g, o, hA, fun j hj => ⟨(hb.cell (p := ⟨g, _, none⟩) (hA (by omega)).2).trans (hc j hj).1, (hb.cell (p := ⟨g, _, none⟩) (hA (by omega)).2).trans (hc j hj).2⟩⟩
theorem takeR_succ {rs : List R2} {k : Nat} (h : k < rs.length) : rs.take (k + 1) = rs.take k ++ [rs.getD k (0, 0)] := by
  rw [List.take_succ_eq_append_getElem h, List.getD_eq_getElem?_getD, List.getElem?_eq_getElem h]
  rfl

set_option maxRecDepth 100000 in
set_option maxHeartbeats 2000000 in
/-- the iterator of slices.Values: for every loop's body that keeps what lay below n0 -/
theorem values1_in (n : Nat) (hn : 1 ≤ n) (l Bs n0 len cap : Nat) (A : Option Addr) (rs : List R2) (hl : rs.length = len) (hlb : len ≤ 1000000) (J Jx : List R2 → World → Prop) (hJ : ∀ s W o, J s W → J s (W.alloc o))
    (hY : ∀ pre x W, J pre W → pre.length < len → YieldAt Fence.wide (n - 1) Tryd.prog l #[aggR x] W fun e W' =>
      (e = .returned (.bool true) ∧ J (pre ++ [x]) W' ∧ Below n0 W W') ∨ (e = .returned (.bool false) ∧ Jx (pre ++ [x]) W'))
    (W : World) (hn0 : n0 ≤ W.heap.size) (hBs : W.cell? ⟨Bs, 0, none⟩ = some (.slice A len cap)) (hr : RdR0 n0 W A rs) (h0 : J [] W) :
    CallsIn Fence.wide n Tryd.prog 44 #[.func (.yield l) #[] #[], .pointer (some ⟨Bs, 0, none⟩)] W fun e W' => (∃ v, e = .returned v) ∧
      ((∃ ys, ys = rs ∧ J ys W') ∨ (∃ pre, (∃ k, k ≤ len ∧ pre = rs.take k) ∧ Jx pre W')) := by
  refine callsIn_of_wp Tryd.func44 rfl trivial ?_ rfl
  simp only [Tryd.ntmps44, List.size_toArray, List.length_cons, List.length_nil, Nat.reduceAdd, Nat.reduceSub, Array.replicate_succ, Array.replicate_zero, List.push_toArray, List.append_toArray, List.nil_append, List.cons_append]
  have HL := Lib.hid hl
  have HY := Lib.hid hY
  have HR := Lib.hid hr
  clear hY hr hl
  gi_wp2
  gi_loopw [7] (fun i wr => ∃ k : Nat, k ≤ len ∧ i = .int .i64 k ∧ J (rs.take k) wr ∧ Below n0 W wr)
    (fun i _ => len - (intOf i).toNat)
  case atStart => exact ⟨0, Nat.zero_le _, rfl, by simpa using h0, Below.refl _ _⟩
  case round =>
    obtain ⟨k, hk, rfl, hJs, hnx⟩ := hrel
    by_cases hlt : k < len
    · obtain ⟨g, o, hA, hc⟩ := HR.out.below hnx
      obtain ⟨rfl, hg⟩ := hA (by rw [HL.out]; omega)
      obtain ⟨c0, c1⟩ := hc k (by rw [HL.out]; exact hlt)
      have HT := Lib.hid (takeR_succ (rs := rs) (k := k) (by rw [HL.out]; exact hlt))
      obtain ⟨x, hx⟩ : ∃ x, rs.getD k (0, 0) = x := ⟨_, rfl⟩
      rw [hx] at c0 c1 HT
      obtain ⟨x1, x2⟩ := x
      dsimp only at c0 c1
      have hlt' : (k : Int) < len := by omega
      have hk0 : (0 : Int) ≤ k := by omega
      have hlen : (rs.take k).length < len := by rw [List.length_take, HL.out]; omega
      have hsz : n0 ≤ wr.heap.size := Nat.le_trans hn0 hnx.size
      obtain ⟨w2, hw2⟩ : ∃ w2, wr.alloc (.cells #[.int .i64 x1, .int .i64 x2] 24) = w2 := ⟨_, rfl⟩
      have hJ2 : J (rs.take k) w2 := by rw [← hw2]; exact hJ _ _ _ hJs
      have hb2 : Below n0 wr w2 := by rw [← hw2]; exact (Below.refl _ _).alloc hsz _
      have e2 : w2.heap[wr.heap.size]? = some (.cells #[.int .i64 x1, .int .i64 x2] 24 (0, 0)) := by rw [← hw2]; exact World.alloc_heap_new wr _
      have v0 : w2.cell? ⟨wr.heap.size, 0, none⟩ = some (.int .i64 x1) := by simp [World.cell?, e2]
      have v1 : w2.cell? ⟨wr.heap.size, 1, none⟩ = some (.int .i64 x2) := by simp [World.cell?, e2]
      obtain ⟨fn, tmps, assign, body, hy, hR⟩ := HY.out _ (x1, x2) w2 hJ2 hlen
      unfold aggR at hy
      dsimp only at hy
      clear hA hc hx
      gi_wp2
      refine hR.mono ?_
      rintro e W3 (⟨rfl, hJ3, hk3⟩ | ⟨rfl, hJx3⟩)
      · have hn3 := hnx.trans (hb2.trans hk3)
        gi_wp2
        go_roundw
        case rel => exact ⟨k + 1, by omega, by go_num, by rw [HT.out]; exact hJ3, hn3⟩
        case measure => simp [intOf]; omega
      · gi_wp2
        refine bodyPost_ret (results_none rfl _ _ _) rfl ?_
        exact ⟨⟨_, rfl⟩, .inr ⟨_, ⟨k + 1, by omega, rfl⟩, by rw [HT.out]; exact hJx3⟩⟩
    · obtain rfl : k = len := by omega
      have hnn : ¬ (k : Int) < k := by omega
      have htk : rs.take k = rs := List.take_of_length_le (by rw [HL.out]; exact Nat.le_refl _)
      rw [htk] at hJs
      clear htk
      gi_wp2
      go_end0
      first
      | exact ⟨⟨_, rfl⟩, .inl hJs⟩
      | exact ⟨⟨_, rfl⟩, .inl ⟨_, rfl, hJs⟩⟩

theorem values_stops (n : Nat) (hn : 1 ≤ n) (Bs n0 len cap : Nat) (A : Option Addr) (rs : List R2) (hl : rs.length = len) (hlb : len ≤ 1000000) (w : World) (hBs : Bs < w.heap.size) (hn0 : n0 ≤ w.heap.size)
    (hc : w.cell? ⟨Bs, 0, none⟩ = some (.slice A len cap)) (hr : RdR0 n0 w A rs) :
    SeqStopsK Fence.wide n Tryd.prog 44 #[.pointer (some ⟨Bs, 0, none⟩)] (fun x : R2 => #[aggR x]) (Below n0) (fun ys => ys = rs) (fun pre => ∃ k, k ≤ len ∧ pre = rs.take k) len w :=
  fun l J Jx W hW hJ _ hY h0 => values1_in n hn l Bs n0 len cap A rs hl hlb J Jx
    (fun s A o hA => hJ s A _ none hA (World.grownBy_alloc A o none) (fun r e => by cases e)) hY W (Nat.le_trans hn0 hW.size)
    ((hW.cell (p := ⟨Bs, 0, none⟩) hBs).trans hc) (hr.below (hW.mono hn0)) h0

set_option maxHeartbeats 1000000 in
theorem values_calls (a : Option Addr) (len cap : Nat) (w : World) :
    Calls Tryd.prog 31 #[.slice a len cap] w fun e w' => e = .returned (.func (.func 44) #[] #[.pointer (some ⟨w.heap.size, 0, none⟩)]) ∧
      w.alloc (.cells #[.slice a len cap] 45) = w' := by
  go_enter Tryd.func31, Tryd.ntmps31
  go_wp2
  go_ret
  exact ⟨rfl, rfl⟩

theorem res_info : (Tryd.prog.info? 24).map (fun i => (i.zero, i.size, i.bytes)) = some (some (.agg #[.int .i64 0, .int .i64 0]), 2, 16) := by kernel_rfl
theorem ownFrom_sizeS {β : Type} (B c : Nat) : OwnFrom B (fun (_ : β) (W : World) => c ≤ W.heap.size) := fun _ _ _ _ hs hg _ => Nat.le_trans hs hg.size
/-- a row of one's own, seen from lower down -/
theorem own_lower {w : World} {B B' : Nat} {e : TypeId} {s n : Nat} {v : Value} {xs : List Value} (h : w.ownsRow B e s v n xs) (hB : B' ≤ B) : w.ownsRow B' e s v n xs := by
  obtain ⟨hl, h⟩ := h
  refine ⟨hl, ?_⟩
  rcases h with h | ⟨g, cap, cur, hv, hg, hr⟩
  · exact .inl h
  · exact .inr ⟨g, cap, cur, hv, by omega, hr⟩

theorem newsR (W : World) (x1 x2 : Int) : ∀ (j : Nat) u, [Value.int .i64 x1, .int .i64 x2][j]? = some u → (W.alloc (.cells #[.int .i64 x1, .int .i64 x2] 24)).cell? ((⟨W.heap.size, 0, none⟩ : Addr).add j) = some u := by
  intro j u h
  match j with
  | 0 => simp at h; subst h; simp [Addr.add]
  | 1 => simp at h; subst h; simp [Addr.add]
  | j + 2 => simp at h

set_option maxRecDepth 100000 in
set_option maxHeartbeats 4000000 in
/-- slices.AppendSeq(nil, seq), of whatever such value: a row of its own, of all that came -/
theorem appendSeq_in (gf : Nat) (lb : Array Value) (hgf : ∀ args w, (callFunc gf args).run Tryd.prog w = .ok (.enter gf args) w) {Kp : World → World → Prop} {S Sp : List R2 → Prop} {N : Nat} (hN : N ≤ 1000000) (w : World)
    (hseq : SeqStopsK Fence.wide 4 Tryd.prog gf lb (fun x : R2 => #[aggR x]) Kp S Sp N w) (hSl : ∀ xs, S xs → xs.length ≤ N)
    (hKt : ∀ {A B C : World}, Kp A B → Kp B C → Kp A C) (hKb : ∀ (W : World) (l : Nat) (o o' : Obj), w.heap.size + 1 ≤ l → W.heap[l]? = some o → o.isCells = false → o.isWalk = false → Kp W (W.putObj l o'))
    (hKa : ∀ W W' : World, KeepsOthers W W' → Below w.heap.size W W' → Kp W W') :
    CallsIn Fence.wide 5 Tryd.prog 49 #[.slice none 0 0, .func (.func gf) #[] lb] w fun e w' => (∃ v xs, e = .returned v ∧ S xs ∧ w'.ownsRow w.heap.size 24 2 v xs.length (flatR xs)) ∧ Below w.heap.size w w' := by
  obtain ⟨i0, hi, hz0, hz1, hz2⟩ := info_parts res_info
  refine callsIn_of_wp_marks Tryd.func49 rfl trivial ?_ rfl
  simp only [Tryd.ntmps49, List.size_toArray, List.length_cons, List.length_nil, Nat.reduceAdd, Nat.reduceSub, Array.replicate_succ, Array.replicate_zero, List.push_toArray, List.append_toArray, List.nil_append, List.cons_append]
  gi_wp2
  have bO := Boxed.new w 45 (.slice none 0 0)
  have hB0 : Below w.heap.size w (w.alloc (.cells #[.slice none 0 0] 45)) := (Below.refl _ w).alloc (Nat.le_refl _) _
  refine wpIn_rangeFunc_ownH rfl (by omega) (gf := gf) (lb := lb) rfl trivial hgf
    hseq hKt (fun W l o o' h => hKb W l o o' (by simpa using h)) hB0 (fun _ => rfl)
    (fun pre W => (∃ v, Boxed W w.heap.size 45 v ∧ W.ownsRow (w.heap.size + 1) 24 2 v pre.length (flatR pre) ∧ True) ∧ Below w.heap.size w W ∧ w.heap.size + 1 ≤ W.heap.size)
    (fun _ _ _ => False)
    (OwnFrom.and (Own.from (holdsRow_own (w.heap.size + 1) w.heap.size 45 24 2 (fun pre : List R2 => pre.length) (fun pre : List R2 => flatR pre) (fun _ _ => True)) _) (OwnFrom.and (ownFrom_below (Nat.le_refl _) (by simp)) (ownFrom_sizeS _ _)))
    (fun _ _ _ _ _ hs _ _ => hs)
    ⟨⟨_, bO, World.ownsRow_nil _ _ _ _, trivial⟩, hB0, by simp⟩
    (fun x a' W => ∃ Bx, w.heap.size + 1 ≤ Bx ∧ W.heap[Bx]? = some (.cells #[.int .i64 x.1, .int .i64 x.2] 24 (0, 0)) ∧ a' = { tmps := #[.slice none 0 0, .func (.func gf) #[] lb, .pointer (some ⟨w.heap.size, 0, none⟩), undef, .slice none 0 0, .pointer (some ⟨Bx, 0, none⟩), .func (.func gf) #[] lb, aggR x, undef, undef, undef, undef, undef], defers := [] })
    (fun x a' _ X Y row hs hg hr => by
      obtain ⟨Bx, h1, h2, h3⟩ := hs
      exact ⟨Bx, h1, (hg.block Bx (Array.getElem?_eq_some_iff.1 h2).1 (fun e => by obtain ⟨_, o, ho, hc⟩ := hr Bx e.symm; rw [h2] at ho; cases ho; cases hc)).trans h2, h3⟩)
    ?assign ?body ?done ?stop
  case assign =>
    rintro l pre x W K ⟨⟨v, hv, hrow, _⟩, hB1, hsz⟩ hK
    obtain ⟨x1, x2⟩ := x
    unfold aggR at hK ⊢
    dsimp only at hK ⊢
    gi_wp2
    exact hK _ _ ((KeepsOthers.alloc _ _).from _) (hKa _ _ (KeepsOthers.alloc _ _) ((Below.refl _ W).alloc hB1.size _)) ⟨⟨v, hv.alloc _, hrow.alloc _, trivial⟩, hB1.alloc hB1.size _, by simp; omega⟩ ⟨W.heap.size, hsz, World.alloc_heap_new W _, rfl⟩
  case body =>
    rintro l pre x a' W hl ⟨r, hr⟩ ⟨⟨v, hv, hrow, _⟩, hB1, hsz⟩ ⟨Bx, hBx, bX, rfl⟩ hlt
    obtain ⟨x1, x2⟩ := x
    have c0 : W.cell? ⟨Bx, 0, none⟩ = some (.int .i64 x1) := by simp [World.cell?, bX]
    have c1 : W.cell? ⟨Bx, 1, none⟩ = some (.int .i64 x2) := by simp [World.cell?, bX]
    have hvc := hv.cell
    have hvf := hv.frozen
    unfold aggR
    dsimp only
    gi_wp2_with (gi_at_builtin; refine wpListIn_append_own _ rfl _ _ 45 rfl (w.heap.size + 1) 24 i0 (.agg #[.int .i64 0, .int .i64 0]) 2 16 Tryd.underlying45 hi hz0 hz1 hz2 rfl (by decide) _ _ _ rfl (hrow.alloc _) ⟨W.heap.size, 0, none⟩ 1 1 [.int .i64 x1, .int .i64 x2] rfl rfl (newsR W x1 x2) (by simp [Value.oneCell']) (by unfold maxLen; omega) (by omega) (by simp; omega) ?_; intro v' w1 hown' hgrow _; obtain ⟨g', cap', rfl⟩ := ownsRow_succ hown'; obtain ⟨hv1, hv2, _, hk2, hb2⟩ := hv.appended (by decide) (own_lower hrow (Nat.le_succ _)) hB1.size (Nat.le_refl _) (own_lower hown' (Nat.le_succ _)) hgrow; have hc1 := hv1.cell; have hf1 := hv1.frozen)
    have hne : some w.heap.size ≠ (Value.slice (some ⟨g', 0, none⟩) (pre.length + 1) cap').ownBlock := fun e => by
      rcases hown'.2 with ⟨h, _⟩ | ⟨g2, c2, cur, hv', hg2, _⟩
      · cases h
      · cases hv'
        simp [Value.ownBlock] at e
        omega
    have hfin : (w1.setCell ⟨w.heap.size, 0, none⟩ (.slice (some ⟨g', 0, none⟩) (pre.length + 1) cap')).ownsRow (w.heap.size + 1) 24 2 (.slice (some ⟨g', 0, none⟩) (pre.length + 1) cap') (pre ++ [(x1, x2)]).length (flatR (pre ++ [(x1, x2)])) := by
      rw [flatR_snoc, List.length_append]
      exact hown'.kept (grownBy_setCell' w1 w.heap.size _) (.inr hne.symm)
    exact ⟨hk2.from _, hKa _ _ hk2 hb2, ⟨_, hv2, hfin⟩, hB1.trans hb2, by have := hb2.size; omega⟩
  case done =>
    rintro D ys W hD hys ⟨⟨v, hv, hrow, _⟩, hB1, hsz⟩ hK
    have hc := hv.cell
    gi_wp2
    refine ⟨by simp, .inl ⟨_, _, rfl, run_takeDeferred hK, ?_⟩⟩
    exact ⟨_, results_tmp rfl _ _ _, ⟨v, ys, rfl, hys, ownsRow_putObj (own_lower hrow (Nat.le_succ _)) _ hK rfl⟩, hB1.trans (belowK_b (w := w) (Nat.le_refl _) W D _ _ (by simp at hD; omega) hK rfl rfl)⟩
  case stop =>
    rintro D c pre W _ _ h _
    exact h.elim
end Go.Proofs.YtonphamahnagfaaDoor

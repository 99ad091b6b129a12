/-
  slices.Chunk over bytes, five at a time: what its iterator hands to a loop's rounds.
-/
import Derived.Test.YtkmmhdghkbleaaaDoorRows
import Derived.RangeFuncNested
import Derived.RangeFuncBound
import Derived.RangeFuncCalls
import Derived.RangeFuncLeaves
import Derived.RangeFuncBox
import Derived.Shelf.Abstract
import Derived.Shelf.RegionOpen
import Derived.WalkKit
import Derived.OwnWalkIn
import Derived.TacticsInMore
import Derived.LoopNIn
import Derived.LoopIn
import Derived.Maps.AppendAt
import Derived.Lib.Hide
namespace Go.Proofs.YtkmmhdghkbleaaaDoor
open Go.RowKit Go.Shelf
set_option linter.unusedVariables false
attribute [local go_sem] Oper.semAt_some

/-- what lies below n1 lies as it lay, but for block x -/
def Kx (n1 x : Nat) (A B : World) : Prop := ∀ k, k < n1 → k ≠ x → B.heap[k]? = A.heap[k]?
theorem Kx.refl (n1 x : Nat) (A : World) : Kx n1 x A A := fun _ _ _ => rfl
theorem Kx.trans {n1 x : Nat} {A B C : World} (h : Kx n1 x A B) (k : Kx n1 x B C) : Kx n1 x A C := fun i hi hx => (k i hi hx).trans (h i hi hx)
theorem Kx.putObj {n1 x : Nat} {w : World} (hn : n1 ≤ w.heap.size) (W : World) (l : Nat) (o o' : Obj) (hl : w.heap.size ≤ l) (h : W.heap[l]? = some o) (h1 : o.isCells = false) (h2 : o.isWalk = false) : Kx n1 x W (W.putObj l o') :=
  fun k hk _ => (belowK_b (n₀ := n1) hn W l o o' hl h h1 h2).block k hk
theorem Kx.below {n1 x : Nat} {A B : World} (h : Below n1 A B) : Kx n1 x A B := fun k hk _ => h.block k hk
theorem Kx.cell {n1 x : Nat} {A B : World} (h : Kx n1 x A B) {b o : Nat} (hb : b < n1) (hx : b ≠ x) : B.cell? ⟨b, o, none⟩ = A.cell? ⟨b, o, none⟩ :=
  World.cell?_of_block (a := ⟨b, o, none⟩) (h b hb hx)

/-- piece number k -/
def pieceV (b off n k : Nat) : Value := .slice (some ⟨b, off + 5 * k, none⟩) (min 5 (n - 5 * k)) (min 5 (n - 5 * k))

theorem finTake_succ {N k : Nat} (h : k < N) : (List.finRange N).take (k + 1) = (List.finRange N).take k ++ [⟨k, h⟩] := by
  rw [List.take_succ_eq_append_getElem (by simpa using h)]; simp

set_option maxRecDepth 100000 in
set_option maxHeartbeats 2000000 in
theorem chunk1_in (n : Nat) (hn : 1 ≤ n) (l Bs Bn n1 x b off len cap N : Nat) (A : Option Addr) (hA : 0 < len → A = some ⟨b, off, none⟩) (hlen : len ≤ 1000000) (hcap : len ≤ cap) (hN : (len + 4) / 5 = N) (hBs : Bs < n1) (hBn : Bn < n1) (hs : Bs ≠ x) (hnx : Bn ≠ x) (J Jx : List (Fin N) → World → Prop) (hJ : ∀ s W, J s W → J s W.drew)
    (hY : ∀ pre y W, J pre W → pre.length < N → YieldAt Fence.wide (n - 1) Tryd.prog l #[pieceV b off len y.1] W fun e W' =>
      (e = .returned (.bool true) ∧ J (pre ++ [y]) W' ∧ Kx n1 x W W') ∨ (e = .returned (.bool false) ∧ Jx (pre ++ [y]) W'))
    (W : World) (hcs : W.cell? ⟨Bs, 0, none⟩ = some (.slice A len cap)) (hcn : W.cell? ⟨Bn, 0, none⟩ = some (.int .i64 5)) (h0 : J [] W) :
    CallsIn Fence.wide n Tryd.prog 27 #[.func (.yield l) #[] #[], .pointer (some ⟨Bs, 0, none⟩), .pointer (some ⟨Bn, 0, none⟩)] W fun e W' => (∃ v, e = .returned v) ∧
      ((∃ ys, ys = List.finRange N ∧ J ys W') ∨ (∃ pre, (∃ k, k ≤ N ∧ pre = (List.finRange N).take k) ∧ Jx pre W')) := by
  refine callsIn_of_wp Tryd.func27 rfl trivial ?_ rfl
  simp only [Tryd.ntmps27, List.size_toArray, List.length_cons, List.length_nil, Nat.reduceAdd, Nat.reduceSub, Array.replicate_succ, Array.replicate_zero, List.push_toArray, List.append_toArray, List.nil_append, List.cons_append]
  have HN := Lib.hid hN
  have HY := Lib.hid hY
  have HA := Lib.hid hA
  clear hN hY hA
  gi_wp2
  gi_loopw [4] (fun i wr => ∃ k j : Nat, j = 5 * k ∧ k ≤ N ∧ i = .int .i64 j ∧ J ((List.finRange N).take k) wr ∧ Kx n1 x W wr)
    (fun i _ => len + 10 - (intOf i).toNat)
  case atStart => exact ⟨0, 0, rfl, Nat.zero_le _, rfl, by simpa using h0, Kx.refl _ _ _⟩
  case round =>
    obtain ⟨k, j, hj, hk, rfl, hJs, hkx⟩ := hrel
    have HJ := Lib.hid hj
    clear hj
    have c1 : wr.cell? ⟨Bs, 0, none⟩ = some (.slice A len cap) := (hkx.cell hBs hs).trans hcs
    have c2 : wr.cell? ⟨Bn, 0, none⟩ = some (.int .i64 5) := (hkx.cell hBn hnx).trans hcn
    by_cases hlt : j < len
    · have hkN : k < N := by have := HJ.out; have := HN.out; omega
      obtain rfl := HA.out (by omega)
      have hlt' : (j : Int) < len := by omega
      have hjc : j < cap := by omega
      have hfol : Tryd.prog.follows .mixedOrders = true := by kernel_rfl
      have hJd := hJ _ _ hJs
      have hlen : ((List.finRange N).take k).length < N := by rw [List.length_take]; simp; omega
      have hYk := HY.out _ ⟨k, hkN⟩ wr.drew hJd hlen
      have hkd : Kx n1 x W wr.drew := hkx
      by_cases hfull : 5 ≤ len - j
      · have hp : pieceV b off len k = .slice (some ⟨b, off + j, none⟩) 5 5 := by
          have := HJ.out
          unfold pieceV; rw [← this, Nat.min_eq_left hfull]
        simp only [hp] at hYk
        obtain ⟨fn, tmps, assign, body, hy, hR⟩ := hYk
        obtain ⟨m, hm⟩ : ∃ m, len - j = m := ⟨_, rfl⟩
        rw [hm] at hfull
        have hf1 : (5 : Int) ≤ (m : Int) := by omega
        have e5 : ((j : Int) + 5).toNat - j = 5 := by omega
        gi_wp2
        gi_region_o
        gi_wp2
        refine hR.mono ?_
        rintro e W3 (⟨rfl, hJ3, hk3⟩ | ⟨rfl, hJx3⟩)
        · have hkx3 := hkd.trans hk3
          have c1' : W3.cell? ⟨Bs, 0, none⟩ = some (.slice (some ⟨b, off, none⟩) len cap) := (hkx3.cell hBs hs).trans hcs
          have c2' : W3.cell? ⟨Bn, 0, none⟩ = some (.int .i64 5) := (hkx3.cell hBn hnx).trans hcn
          clear e5
          gi_wp2
          go_roundw
          case rel => exact ⟨k + 1, j + 5, by have := HJ.out; omega, by omega, by go_num, by rw [finTake_succ hkN]; exact hJ3, hkx3⟩
          case measure => simp [intOf]; omega
        · gi_wp2
          refine bodyPost_ret (results_none rfl _ _ _) rfl ?_
          exact ⟨⟨_, rfl⟩, .inr ⟨_, ⟨k + 1, by omega, rfl⟩, by rw [finTake_succ hkN]; exact hJx3⟩⟩
      · obtain ⟨m, hm⟩ : ∃ m, len - j = m := ⟨_, rfl⟩
        have hp : pieceV b off len k = .slice (some ⟨b, off + j, none⟩) m m := by
          have := HJ.out
          unfold pieceV; rw [← this, Nat.min_eq_right (by omega), hm]
        simp only [hp] at hYk
        obtain ⟨fn, tmps, assign, body, hy, hR⟩ := hYk
        rw [hm] at hfull
        have hf1 : (m : Int) < 5 := by omega
        have hf2 : ¬ (5 : Int) ≤ (m : Int) := by omega
        have hf3 : j + m ≤ cap := by omega
        have hf4 : (j : Int) + (m : Int) ≤ cap := by omega
        have e5 : ((j : Int) + (m : Int)).toNat - j = m := by omega
        gi_wp2
        gi_region_o
        gi_wp2
        refine hR.mono ?_
        rintro e W3 (⟨rfl, hJ3, hk3⟩ | ⟨rfl, hJx3⟩)
        · have hkx3 := hkd.trans hk3
          have c1' : W3.cell? ⟨Bs, 0, none⟩ = some (.slice (some ⟨b, off, none⟩) len cap) := (hkx3.cell hBs hs).trans hcs
          have c2' : W3.cell? ⟨Bn, 0, none⟩ = some (.int .i64 5) := (hkx3.cell hBn hnx).trans hcn
          clear e5
          gi_wp2
          go_roundw
          case rel => exact ⟨k + 1, j + 5, by have := HJ.out; omega, by omega, by go_num, by rw [finTake_succ hkN]; exact hJ3, hkx3⟩
          case measure => simp [intOf]; omega
        · gi_wp2
          refine bodyPost_ret (results_none rfl _ _ _) rfl ?_
          exact ⟨⟨_, rfl⟩, .inr ⟨_, ⟨k + 1, by omega, rfl⟩, by rw [finTake_succ hkN]; exact hJx3⟩⟩
    · have hge : ¬ (j : Int) < len := by omega
      have hkN : k = N := by have := HJ.out; have := HN.out; omega
      gi_wp2
      go_end0
      have hJN : J (List.finRange N) wr := by
        rw [hkN, List.take_of_length_le (by simp)] at hJs
        exact hJs
      first
      | exact ⟨⟨_, rfl⟩, .inl hJN⟩
      | exact ⟨⟨_, rfl⟩, .inl ⟨_, rfl, hJN⟩⟩

theorem chunk_stops (n : Nat) (hn : 1 ≤ n) (Bs Bn n1 x b off len cap N : Nat) (A : Option Addr) (hA : 0 < len → A = some ⟨b, off, none⟩) (w : World) (hlen : len ≤ 1000000) (hcap : len ≤ cap) (hN : (len + 4) / 5 = N) (hBs : Bs < n1) (hBn : Bn < n1) (hs : Bs ≠ x) (hnx : Bn ≠ x) (hn1 : n1 ≤ w.heap.size)
    (hcs : w.cell? ⟨Bs, 0, none⟩ = some (.slice A len cap)) (hcn : w.cell? ⟨Bn, 0, none⟩ = some (.int .i64 5)) :
    SeqStopsK Fence.wide n Tryd.prog 27 #[.pointer (some ⟨Bs, 0, none⟩), .pointer (some ⟨Bn, 0, none⟩)] (fun y : Fin N => #[pieceV b off len y.1]) (Kx n1 x) (fun ys => ys = List.finRange N) (fun pre => ∃ k, k ≤ N ∧ pre = (List.finRange N).take k) N w :=
  fun l J Jx W hW hJ _ hY h0 => chunk1_in n hn l Bs Bn n1 x b off len cap N A hA hlen hcap hN hBs hBn hs hnx J Jx
    (fun s A hA => hJ s A A.drew none hA ⟨rfl, rfl, rfl, Nat.le_refl _, fun _ _ _ => rfl⟩ (fun r e => by cases e)) hY W
    ((hW.cell (p := ⟨Bs, 0, none⟩) (by show Bs < _; omega)).trans hcs) ((hW.cell (p := ⟨Bn, 0, none⟩) (by show Bn < _; omega)).trans hcn) h0

set_option maxHeartbeats 1000000 in
theorem chunk_calls (a : Option Addr) (len cap : Nat) (w : World) :
    Calls Tryd.prog 18 #[.slice a len cap, .int .i64 5] w fun e w' => e = .returned (.func (.func 27) #[] #[.pointer (some ⟨w.heap.size, 0, none⟩), .pointer (some ⟨w.heap.size + 1, 0, none⟩)]) ∧
      (w.alloc (.cells #[.slice a len cap] 25)).alloc (.cells #[.int .i64 5] 3) = w' := by
  go_enter Tryd.func18, Tryd.ntmps18
  go_wp2
  go_ret
  exact ⟨rfl, rfl⟩
end Go.Proofs.YtkmmhdghkbleaaaDoor

/-
  The reference's Parse: it gives the entries of whatever bytes, up to a hundred thousand of them.
-/
import Derived.Test.YtkmmhdghkbleaaaEntP
import Derived.Test.YtkmmhdghkbleaaaParseF
import Derived.Laws.OwnMore
import Derived.Deep.AppendLies
import Derived.OwnWalk
import Derived.Deep.RegionHeld3
import Derived.Laws.Pointers
import Derived.LoopTactic
namespace Go.Proofs.Ytkmmhdghkbleaaa
open Go.ChangeShapes Go.WideShapes Go.ChangeAt Go.RowKit
set_option linter.unusedVariables false

theorem rent_info : (Try.prog.info? 31).map (fun i => (i.zero, i.size, i.bytes)) = some (some (.agg #[.int .i64 0, .int .i64 0, .int .i64 0, .int .i64 0, .int .i64 0, .int .i64 0]), 6, 48) := by kernel_rfl

theorem below_own {B : Nat} {w w1 : World} {e : TypeId} {s n : Nat} {v : Value} {xs : List Value} (h : w.ownsRow B e s v n xs) (hb : Below w.heap.size w w1) : w1.ownsRow B e s v n xs := by
  obtain ⟨hl, h⟩ := h
  refine ⟨hl, ?_⟩
  rcases h with h | ⟨g, cap, cur, hv, hg, hh, hr⟩
  · exact .inl h
  · refine .inr ⟨g, cap, cur, hv, hg, ?_, hr⟩
    rw [hb.block g ?_]; exact hh
    rcases Nat.lt_or_ge g w.heap.size with h' | h'
    · exact h'
    · rw [Array.getElem?_eq_none h'] at hh; cases hh

theorem one_eq (k a1 a2 a3 a4 ek ec et er em ep : Int) (w : World) (h : rdF k a1 a2 a3 a4 = ⟨ek, ec, et, er, em, ep⟩) (h0 : 0 ≤ k) (h0' : k ≤ 255) (h1 : 0 ≤ a1) (h1' : a1 ≤ 255) (h2 : 0 ≤ a2) (h2' : a2 ≤ 255) (h3 : 0 ≤ a3) (h3' : a3 ≤ 255) (h4 : 0 ≤ a4) (h4' : a4 ≤ 255) :
    Calls Try.prog 15 #[.int .i64 k, .int .i64 a1, .int .i64 a2, .int .i64 a3, .int .i64 a4] w fun e w' => e = .returned (.agg #[.int .i64 ek, .int .i64 ec, .int .i64 et, .int .i64 er, .int .i64 em, .int .i64 ep]) ∧ Below w.heap.size w w' :=
  (one_any k a1 a2 a3 a4 w h0 h0' h1 h1' h2 h2' h3 h3' h4 h4').mono fun e w' ⟨he, hb⟩ => ⟨by rw [he, h]; rfl, hb⟩

theorem own_base {w : World} {B : Nat} {e : TypeId} {s n : Nat} {v : Value} {xs : List Value} (h : w.ownsRow B e s v n xs) : ∀ k, v.ownBlock = some k → B ≤ k := by
  intro k hk
  rcases h.2 with ⟨rfl, _⟩ | ⟨g, cap, cur, rfl, hg, _⟩
  · simp [Value.ownBlock] at hk
  · simp [Value.ownBlock] at hk; omega
theorem own_ne {w : World} {B b : Nat} {e : TypeId} {s n : Nat} {v : Value} {xs : List Value} (h : w.ownsRow B e s v n xs) (hb : b < B) : v.ownBlock ≠ some b := by
  intro hk; have := own_base h _ hk; omega

set_option maxRecDepth 100000 in
set_option maxHeartbeats 4000000 in
theorem rparse_row (b off n cap : Nat) (A : Option Addr) (hA : 0 < n → A = some ⟨b, off, none⟩) (bs : List Int) (w : World) (hn : bs.length = n) (hm : n ≤ 100000) (hc : ∀ i, i < n → w.cell? ⟨b, off + i, none⟩ = some (.int .u8 (bs.getD i 0))) (hw : ∀ i, 0 ≤ bs.getD i 0 ∧ bs.getD i 0 ≤ 255) (hbl' : 0 < n → b < w.heap.size) :
    Calls Try.prog 8 #[.slice A n cap] w fun e w' => (∃ v, e = .returned v ∧ w'.ownsRow w.heap.size 31 6 v (parsed bs).length (flat (parsed bs))) ∧ Below w.heap.size w w' := by
  obtain ⟨i0, hi0, hz0, hz1, hz2⟩ := info_parts rent_info
  have HN := Lib.hid hn
  have HC := Lib.hid hc
  have HW := Lib.hid hw
  have HA := Lib.hid hA
  clear hn hc hw hA
  go_enter Try.func8, Try.ntmps8
  go_wp2
  go_loopw [3, 4] (fun v i wr => ∃ k j : Nat, j = 5 * k ∧ j ≤ n ∧ i = .int .i64 j ∧ wr.ownsRow w.heap.size 31 6 v k (flat (upto bs k)) ∧ Below w.heap.size w wr) (fun _ i _ => n - (intOf i).toNat)
  case atStart => exact ⟨0, 0, rfl, by omega, rfl, World.ownsRow_nil _ _ _ _, Below.refl _ _⟩
  case round =>
    obtain ⟨k, j, hj, hjn, rfl, hown, hb⟩ := hrel
    have HJ := Lib.hid hj
    clear hj
    by_cases hlt : j + 5 ≤ n
    · have hlt' : (j : Int) + 5 ≤ n := by omega
      have hbl := hbl' (by omega)
      obtain rfl := HA.out (by omega)
      have c0 : wr.cell? ⟨b, off + j, none⟩ = some (.int .u8 (bs.getD j 0)) := (hb.cell (p := ⟨b, _, none⟩) hbl).trans (HC.out j (by omega))
      have c1 : wr.cell? ⟨b, off + (j + 1), none⟩ = some (.int .u8 (bs.getD (j + 1) 0)) := (hb.cell (p := ⟨b, _, none⟩) hbl).trans (HC.out _ (by omega))
      have c2 : wr.cell? ⟨b, off + (j + 2), none⟩ = some (.int .u8 (bs.getD (j + 2) 0)) := (hb.cell (p := ⟨b, _, none⟩) hbl).trans (HC.out _ (by omega))
      have c3 : wr.cell? ⟨b, off + (j + 3), none⟩ = some (.int .u8 (bs.getD (j + 3) 0)) := (hb.cell (p := ⟨b, _, none⟩) hbl).trans (HC.out _ (by omega))
      have c4 : wr.cell? ⟨b, off + (j + 4), none⟩ = some (.int .u8 (bs.getD (j + 4) 0)) := (hb.cell (p := ⟨b, _, none⟩) hbl).trans (HC.out _ (by omega))
      obtain ⟨x0, x0'⟩ := HW.out j
      obtain ⟨x1, x1'⟩ := HW.out (j + 1)
      obtain ⟨x2, x2'⟩ := HW.out (j + 2)
      obtain ⟨x3, x3'⟩ := HW.out (j + 3)
      obtain ⟨x4, x4'⟩ := HW.out (j + 4)
      obtain ⟨ek, ec, et, er, em, ep, hE⟩ : ∃ ek ec et er em ep, rdF (bs.getD j 0) (bs.getD (j + 1) 0) (bs.getD (j + 2) 0) (bs.getD (j + 3) 0) (bs.getD (j + 4) 0) = ⟨ek, ec, et, er, em, ep⟩ := ⟨_, _, _, _, _, _, rfl⟩
      have hEk : Hid (entAt bs k = ⟨ek, ec, et, er, em, ep⟩) := by
        show entAt bs k = _
        rw [← hE, HJ.out]; rfl
      have HE := Lib.hid hE
      clear hE
      generalize bs.getD j 0 = a0 at *
      generalize bs.getD (j + 1) 0 = a1 at *
      generalize bs.getD (j + 2) 0 = a2 at *
      generalize bs.getD (j + 3) 0 = a3 at *
      generalize bs.getD (j + 4) 0 = a4 at *
      have hbs := hb.size
      have hbl2 : b < wr.heap.size := by omega
      have hfar : u3.ownBlock ≠ some b := own_ne hown hbl
      have hbase := own_base hown
      have hk1 : k + 1 ≤ maxLen := by have := HJ.out; unfold maxLen; omega
      have hk2 : (k + 1) * 48 ≤ 140737488355328 := by have := HJ.out; omega
      go_wp2
      have g0 : (0 : Int) ≤ (j : Int) := by omega
      have g0' : (j : Int) < (n : Int) := by omega
      have g1 : (0 : Int) ≤ (j : Int) + 1 := by omega
      have g1' : (j : Int) + 1 < (n : Int) := by omega
      have g2 : (0 : Int) ≤ (j : Int) + 2 := by omega
      have g2' : (j : Int) + 2 < (n : Int) := by omega
      have g3 : (0 : Int) ≤ (j : Int) + 3 := by omega
      have g3' : (j : Int) + 3 < (n : Int) := by omega
      have g4 : (0 : Int) ≤ (j : Int) + 4 := by omega
      have g4' : (j : Int) + 4 < (n : Int) := by omega
      have t1 : ((j : Int) + 1).toNat = j + 1 := by omega
      have t2 : ((j : Int) + 2).toNat = j + 2 := by omega
      have t3 : ((j : Int) + 3).toNat = j + 3 := by omega
      have t4 : ((j : Int) + 4).toNat = j + 4 := by omega
      have q0 : IntKind.i64.wrap a0 = a0 := IntWalk.i64_in _ (by omega)
      have q1 : IntKind.i64.wrap a1 = a1 := IntWalk.i64_in _ (by omega)
      have q2 : IntKind.i64.wrap a2 = a2 := IntWalk.i64_in _ (by omega)
      have q3 : IntKind.i64.wrap a3 = a3 := IntWalk.i64_in _ (by omega)
      have q4 : IntKind.i64.wrap a4 = a4 := IntWalk.i64_in _ (by omega)
      have e1 : IntKind.i64.wrap ((j : Int) + 1) = (j : Int) + 1 := IntWalk.i64_in _ (by omega)
      have e2 : IntKind.i64.wrap ((j : Int) + 2) = (j : Int) + 2 := IntWalk.i64_in _ (by omega)
      have e3 : IntKind.i64.wrap ((j : Int) + 3) = (j : Int) + 3 := IntWalk.i64_in _ (by omega)
      have e4 : IntKind.i64.wrap ((j : Int) + 4) = (j : Int) + 4 := IntWalk.i64_in _ (by omega)
      go_region_held3 (fun w' => w'.cell? ⟨b, off + j, none⟩ = some (.int .u8 a0) ∧ w'.cell? ⟨b, off + (j + 1), none⟩ = some (.int .u8 a1) ∧ w'.cell? ⟨b, off + (j + 2), none⟩ = some (.int .u8 a2) ∧ w'.cell? ⟨b, off + (j + 3), none⟩ = some (.int .u8 a3) ∧ w'.cell? ⟨b, off + (j + 4), none⟩ = some (.int .u8 a4))
        (first
          | go_keep
          | (go_split_ands
             refine ⟨?_, ?_, ?_, ?_, ?_⟩ <;> (rw [hbO.cell hbl2]; assumption))
          | (go_split_ands
             refine ⟨?_, ?_, ?_, ?_, ?_⟩ <;> (rw [hgrow.cell_far _ (by simpa using hbl3) (Ne.symm hfar)]; assumption)))
        (first
          | (go_at_call 15; refine (one_eq a0 a1 a2 a3 a4 ek ec et er em ep _ HE.out x0 x0' x1 x1' x2 x2' x3 x3' x4 x4').mono ?_; rintro e w1 ⟨rfl, hbO⟩; have hbl3 := Nat.lt_succ_of_lt (Nat.lt_of_lt_of_le hbl2 hbO.size))
          | (refine step_append_lies _ (by rfl) _ _ _ (by rfl) w.heap.size 31 i0 _ 6 48 Try.underlying26 hi0 hz0 hz1 hz2 rfl (by decide) u3 k (flat (upto bs k)) (by rfl) (((below_own hown.drew hbO).alloc _).drew)
              ⟨w1.heap.size, 0, none⟩ 1 1 [.int .i64 ek, .int .i64 ec, .int .i64 et, .int .i64 er, .int .i64 em, .int .i64 ep] (by rfl) (by rfl) (World.news_of_block (cs := #[.int .i64 ek, .int .i64 ec, .int .i64 et, .int .i64 er, .int .i64 em, .int .i64 ep]) (t := 31) (fr := (0, 0)) (heap_alloc_new w1 _)) (by simp [Value.oneCell'])
              (by decide) hk1 hk2 (by have := hbO.size; simp at this ⊢; clear e1 e2 e3 e4 q0 q1 q2 q3 q4 t1 t2 t3 t4; omega) (w1.heap.size + 1) (by simp) ?_; intro gg cap w2 hown2 hgrow hat hlt2))
      clear e1 e2 e3 e4 q0 q1 q2 q3 q4 t1 t2 t3 t4
      go_wp2
      have h1 : Below w.heap.size w w1 := (Below.drew hb).trans (hbO.mono hbs)
      have h2 := h1.size
      have hw2 : Below w.heap.size w w2 := by
        first
        | exact Below.grown ((h1.alloc h2 _).drew) hgrow (by simp; omega) hbase
        | exact Below.grown (h1.alloc h2 _) hgrow (by simp; omega) hbase
      go_roundw
      case rel => exact ⟨k + 1, j + 5, by have := HJ.out; omega, by omega, by go_num, by rw [upto_succ, flat_snoc, hEk.out]; exact hown2, hw2⟩
      case measure => simp [intOf]; omega
    · have hge : ¬ (j : Int) + 5 ≤ n := by omega
      have hk : Hid (bs.length / 5 = k) := by show bs.length / 5 = k; have := HJ.out; have := HN.out; omega
      have hbs := hb.size
      have hbase := own_base hown
      by_cases hz : j < n
      · have hm : Hid (parsed bs = upto bs k ++ [Ent.none]) := by
          show parsed bs = _
          have := HJ.out; have := HN.out
          unfold parsed; rw [hk.out, if_neg (by omega)]
        have hz' : (j : Int) < n := by omega
        have hk1 : k + 1 ≤ maxLen := by have := HJ.out; unfold maxLen; omega
        have hk2 : (k + 1) * 48 ≤ 140737488355328 := by have := HJ.out; omega
        go_wp2_with (at_builtin; refine wpList_append_own _ rfl _ _ 26 rfl w.heap.size 31 i0 _ 6 48 Try.underlying26 hi0 hz0 hz1 hz2 rfl (by decide) _ _ _ rfl (hown.alloc _) ⟨wr.heap.size, 0, none⟩ 1 1 Ent.none.cells rfl rfl (World.news_of_block (cs := #[.int .i64 0, .int .i64 0, .int .i64 0, .int .i64 0, .int .i64 0, .int .i64 0]) (t := 31) (fr := (0, 0)) (heap_alloc_new wr _)) (cells_one _) hk1 hk2 (by simp; omega) ?_; intro v2 w2 hown2 hgrow hat)
        go_ret
        refine ⟨⟨_, rfl, ?_⟩, Below.grown (hb.alloc hbs _) hgrow (by simp; omega) hbase⟩
        rw [hm.out, List.length_append, upto_length, flat_snoc]; exact hown2
      · have hm : Hid (parsed bs = upto bs k) := by
          show parsed bs = _
          have := HJ.out; have := HN.out
          unfold parsed; rw [hk.out, if_pos (by omega)]; simp
        have hz' : ¬ (j : Int) < n := by omega
        go_wp2
        go_ret
        refine ⟨⟨_, rfl, ?_⟩, hb⟩
        rw [hm.out, upto_length]; exact hown
end Go.Proofs.Ytkmmhdghkbleaaa

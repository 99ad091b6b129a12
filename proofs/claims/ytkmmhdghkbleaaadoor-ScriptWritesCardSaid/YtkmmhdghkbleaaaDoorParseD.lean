/-
  script.Parse: it gives the entries of whatever bytes, up to a hundred thousand of them.
-/
import Derived.Test.YtkmmhdghkbleaaaDoorChunk
import Derived.Test.YtkmmhdghkbleaaaDoorParseRD
namespace Go.Proofs.YtkmmhdghkbleaaaDoor
open Go.RowKit Go.Shelf
set_option linter.unusedVariables false
attribute [local go_sem] Oper.semAt_some

theorem ent_info : (Tryd.prog.info? 30).map (fun i => (i.zero, i.size, i.bytes)) = some (some (.agg #[.int .i64 0, .int .i64 0, .int .i64 0, .int .i64 0, .int .i64 0, .int .i64 0]), 6, 48) := by kernel_rfl

def pieceE (bs : List Int) (n k : Nat) : Ent := if 5 * k + 5 ≤ n then entAt bs k else Ent.none

theorem own_weaken {w : World} {B B' : Nat} {e : TypeId} {s n : Nat} {v : Value} {xs : List Value} (h : w.ownsRow B e s v n xs) (hB : B' ≤ B) : w.ownsRow B' e s v n xs := by
  obtain ⟨hl, h⟩ := h
  refine ⟨hl, ?_⟩
  rcases h with h | ⟨g, cap, cur, hv, hg, hr⟩
  · exact .inl h
  · exact .inr ⟨g, cap, cur, hv, by omega, hr⟩

theorem read_eq (b off : Nat) (k a1 a2 a3 a4 ek ec et er em ep : Int) (w : World) (h : rdF k a1 a2 a3 a4 = ⟨ek, ec, et, er, em, ep⟩) (hc0 : w.cell? ⟨b, off, none⟩ = some (.int .u8 k)) (hc1 : w.cell? ⟨b, off + 1, none⟩ = some (.int .u8 a1)) (hc2 : w.cell? ⟨b, off + 2, none⟩ = some (.int .u8 a2))
    (hc3 : w.cell? ⟨b, off + 3, none⟩ = some (.int .u8 a3)) (hc4 : w.cell? ⟨b, off + 4, none⟩ = some (.int .u8 a4)) (h0 : 0 ≤ k) (h0' : k ≤ 255) (h1 : 0 ≤ a1) (h1' : a1 ≤ 255) (h2 : 0 ≤ a2) (h2' : a2 ≤ 255) (h3 : 0 ≤ a3) (h3' : a3 ≤ 255) (h4 : 0 ≤ a4) (h4' : a4 ≤ 255) :
    Calls Tryd.prog 19 #[.slice (some ⟨b, off, none⟩) 5 5] w fun e w' => e = .returned (.agg #[.int .i64 ek, .int .i64 ec, .int .i64 et, .int .i64 er, .int .i64 em, .int .i64 ep]) ∧ Below w.heap.size w w' :=
  (read_any b off k a1 a2 a3 a4 w hc0 hc1 hc2 hc3 hc4 h0 h0' h1 h1' h2 h2' h3 h3' h4 h4').mono fun e w' ⟨he, hb⟩ => ⟨by rw [he, h]; rfl, hb⟩

/-- the append of one entry onto a row of the call's own, in whatever world that holds the new entry -/
theorem run_append_ent (B v : Nat) (vv : Value) (n : Nat) (xs : List Value) (w : World) (hown : w.ownsRow B 30 6 vv n xs) (ek ec et er em ep : Int) (hB : B ≤ w.heap.size) (hk1 : n + 1 ≤ maxLen) (hk2 : (n + 1) * 48 ≤ 140737488355328) :
    ∃ v' w', (Builtin.append_ #[24, 24] 24 #[vv, .slice (some ⟨w.heap.size, 0, none⟩) 1 1]).run Tryd.prog (w.alloc (.cells #[.int .i64 ek, .int .i64 ec, .int .i64 et, .int .i64 er, .int .i64 em, .int .i64 ep] 30)) = .ok v' w' ∧
      w'.ownsRow B 30 6 v' (n + 1) (xs ++ [.int .i64 ek, .int .i64 ec, .int .i64 et, .int .i64 er, .int .i64 em, .int .i64 ep]) ∧ (w.alloc (.cells #[.int .i64 ek, .int .i64 ec, .int .i64 et, .int .i64 er, .int .i64 em, .int .i64 ep] 30)).grownBy w' vv.ownBlock ∧ ∃ g cap, v' = .slice (some ⟨g, 0, none⟩) (n + 1) cap := by
  obtain ⟨i0, hi0, hz0, hz1, hz2⟩ := info_parts ent_info
  obtain ⟨v', w', hrun, h2, h3, h4, _⟩ := run_append_own_at (P := Tryd.prog) (w := w.alloc (.cells #[.int .i64 ek, .int .i64 ec, .int .i64 et, .int .i64 er, .int .i64 em, .int .i64 ep] 30)) B 24 24 30 i0 _ 6 48 Tryd.underlying24 hi0 hz0 hz1 hz2 rfl (by decide) vv n xs (hown.alloc _) ⟨w.heap.size, 0, none⟩ 1 1
    [.int .i64 ek, .int .i64 ec, .int .i64 et, .int .i64 er, .int .i64 em, .int .i64 ep] rfl (World.news_of_block (cs := #[.int .i64 ek, .int .i64 ec, .int .i64 et, .int .i64 er, .int .i64 em, .int .i64 ep]) (t := 30) (fr := (0, 0)) (heap_alloc_new w _)) (by simp [Value.oneCell']) hk1 hk2 (by simp; omega)
  refine ⟨v', w', hrun, h2, h3, ?_⟩
  rcases h2.2 with ⟨rfl, h⟩ | ⟨g, cap, cur, rfl, _⟩
  · omega
  · exact ⟨g, cap, rfl⟩

theorem ownFrom_size {β : Type} (B c : Nat) : OwnFrom B (fun (_ : β) (W : World) => c ≤ W.heap.size) := fun _ _ _ _ hs hg _ => Nat.le_trans hs hg.size
theorem keepsFrom_below {B : Nat} {A C : World} (h : Below A.heap.size A C) : KeepsFrom B A C := ⟨h.size, fun k o _ hk _ => (h.block k (Array.getElem?_eq_some_iff.1 hk).1).trans hk⟩

theorem finMap (f : Nat → Ent) (N k : Nat) (hk : k ≤ N) : ((List.finRange N).take k).map (fun y => f y.1) = (List.range k).map f := by
  induction k with
  | zero => rfl
  | succ k ih => rw [finTake_succ (show k < N by omega), List.map_append, ih (by omega), List.range_succ, List.map_append]; rfl

/-- what one append into the boxed row leaves -/
theorem put_entry {n0 x n1 : Nat} {W w1 w2 : World} {v v' : Value} {tmp : Obj} {m : Nat} {xs ys : List Value} (hx : x < n1) (h0 : n0 ≤ x) (hn1 : n1 ≤ W.heap.size) (hW1 : Below W.heap.size W w1) (hv1 : Boxed w1 x 24 v)
    (hrow1 : w1.ownsRow n1 30 6 v m xs) (hown2 : w2.ownsRow n1 30 6 v' (m + 1) ys) (hg2 : (w1.alloc tmp).grownBy w2 v.ownBlock) :
    Boxed (w2.setCell ⟨x, 0, none⟩ v') x 24 v' ∧ (w2.setCell ⟨x, 0, none⟩ v').ownsRow n1 30 6 v' (m + 1) ys ∧ KeepsOthers w1 (w2.setCell ⟨x, 0, none⟩ v') ∧ Below n0 w1 (w2.setCell ⟨x, 0, none⟩ v') ∧ Kx n1 x W (w2.setCell ⟨x, 0, none⟩ v') ∧ n1 ≤ (w2.setCell ⟨x, 0, none⟩ v').heap.size := by
  have hs1 := hW1.size
  have hs2 := hg2.size
  simp only [World.size_alloc] at hs2
  obtain ⟨_, hvs, _, hks, hbs⟩ := Boxed.appended (n₀ := n0) hv1 (by decide) (own_weaken hrow1 (by omega)) (by omega) h0 (own_weaken hown2 (by omega)) hg2
  refine ⟨hvs, hown2.kept (grownBy_setCell' _ _ _) (.inr ?_), hks, hbs, ?_, by have := hbs.size; omega⟩
  · exact own_ne hown2 hx
  · intro k hk hkx
    have e1 : (w2.setCell ⟨x, 0, none⟩ v').heap[k]? = w2.heap[k]? := (grownBy_setCell' w2 x v').block k (by omega) (by simp; exact hkx)
    have e2 : w2.heap[k]? = (w1.alloc tmp).heap[k]? := hg2.block k (by simp; omega) (Ne.symm (own_ne hrow1 hk))
    have e3 : (w1.alloc tmp).heap[k]? = w1.heap[k]? := Below.heap_alloc w1 tmp k (by omega)
    rw [e1, e2, e3]; exact hW1.block k (by omega)

set_option maxRecDepth 100000 in
set_option maxHeartbeats 4000000 in
theorem parse_in (b off n cap N : Nat) (A : Option Addr) (hA : 0 < n → A = some ⟨b, off, none⟩) (bs : List Int) (w : World) (hn : bs.length = n) (hm : n ≤ 100000) (hcap : n ≤ cap) (hN : (n + 4) / 5 = N) (hc : ∀ i, i < n → w.cell? ⟨b, off + i, none⟩ = some (.int .u8 (bs.getD i 0))) (hw : ∀ i, 0 ≤ bs.getD i 0 ∧ bs.getD i 0 ≤ 255) (hbl' : 0 < n → b < w.heap.size) :
    CallsIn Fence.wide 5 Tryd.prog 12 #[.slice A n cap] w fun e w' => (∃ v, e = .returned v ∧ w'.ownsRow w.heap.size 30 6 v (parsed bs).length (flat (parsed bs))) ∧ Below w.heap.size w w' := by
  have HN := Lib.hid hn
  have HC := Lib.hid hc
  have HW := Lib.hid hw
  have HNN := Lib.hid hN
  clear hn hc hw hN
  refine callsIn_of_wp_marks Tryd.func12 rfl trivial ?_ rfl
  simp only [Tryd.ntmps12, List.size_toArray, List.length_cons, List.length_nil, Nat.reduceAdd, Nat.reduceSub, Array.replicate_succ, Array.replicate_zero, List.push_toArray, List.append_toArray, List.nil_append, List.cons_append]
  gi_wp2_with (refine ⟨trivial, ?_⟩; gi_at_call 18; refine (callsIn_wide.2 (chunk_calls _ _ _ _)).mono ?_; rintro e w' ⟨rfl, rfl⟩)
  have hs0 : (((w.alloc (.cells #[.slice none 0 0] 24)).alloc (.cells #[.slice A n cap] 25)).alloc (.cells #[.int .i64 5] 3)).heap.size = w.heap.size + 3 := by simp
  have hB0 : Below w.heap.size w (((w.alloc (.cells #[.slice none 0 0] 24)).alloc (.cells #[.slice A n cap] 25)).alloc (.cells #[.int .i64 5] 3)) :=
    (((Below.refl _ w).alloc (Nat.le_refl _) _).alloc (by simp) _).alloc (by simp; omega) _
  have bO : Boxed (((w.alloc (.cells #[.slice none 0 0] 24)).alloc (.cells #[.slice A n cap] 25)).alloc (.cells #[.int .i64 5] 3)) w.heap.size 24 (.slice none 0 0) := ((Boxed.new w _ _).alloc _).alloc _
  have bS := Boxed.new (w.alloc (.cells #[.slice none 0 0] 24)) 25 (.slice A n cap)
  have bN := Boxed.new ((w.alloc (.cells #[.slice none 0 0] 24)).alloc (.cells #[.slice A n cap] 25)) 3 (.int .i64 5)
  rw [World.size_alloc] at bS bN
  rw [World.size_alloc] at bN
  have hcs := (bS.alloc (.cells #[.int .i64 5] 3)).cell
  have hcn := bN.cell
  refine wpIn_rangeFunc_ownG rfl (by omega) (gf := 27) (lb := #[.pointer (some ⟨w.heap.size + 1, 0, none⟩), .pointer (some ⟨w.heap.size + 2, 0, none⟩)]) rfl trivial (enters_of Tryd.func27 (by kernel_rfl) rfl)
    (chunk_stops 4 (by omega) (w.heap.size + 1) (w.heap.size + 2) (w.heap.size + 3) w.heap.size b off n cap N A hA _ (by omega) hcap HNN.out (by omega) (by omega) (by omega) (by omega) (by simp) hcs hcn)
    Kx.trans (Kx.putObj (by simp)) (Below.refl _ _) (fun _ => rfl)
    (fun pre W => ((∃ v, Boxed W w.heap.size 24 v ∧ W.ownsRow (w.heap.size + 3) 30 6 v pre.length (flat (pre.map fun y => pieceE bs n y.1)) ∧ ∀ y ∈ pre, 5 * y.1 + 5 ≤ n) ∧ Below w.heap.size w W ∧ w.heap.size + 3 ≤ W.heap.size))
    (fun c pre W => c = .exit 0 ∧ ((∃ v, Boxed W w.heap.size 24 v ∧ W.ownsRow (w.heap.size + 3) 30 6 v pre.length (flat (pre.map fun y => pieceE bs n y.1)) ∧ ∃ y ∈ pre, ¬ 5 * y.1 + 5 ≤ n) ∧ Below w.heap.size w W))
    (OwnFrom.and (Own.from (holdsRow_own (w.heap.size + 3) w.heap.size 24 30 6 (fun pre : List (Fin N) => pre.length) (fun pre : List (Fin N) => flat (pre.map fun y => pieceE bs n y.1)) (fun (pre : List (Fin N)) (v : Value) => ∀ y ∈ pre, 5 * y.1 + 5 ≤ n)) _) (OwnFrom.and (ownFrom_below (Nat.le_refl _) (by simp; omega)) (ownFrom_size _ _)))
    (fun c => OwnFrom.and (ownFrom_pure _ _) (OwnFrom.and (Own.from (holdsRow_own (w.heap.size + 3) w.heap.size 24 30 6 (fun pre : List (Fin N) => pre.length) (fun pre : List (Fin N) => flat (pre.map fun y => pieceE bs n y.1)) (fun (pre : List (Fin N)) (v : Value) => ∃ y ∈ pre, ¬ 5 * y.1 + 5 ≤ n)) _) (ownFrom_below (Nat.le_refl _) (by simp; omega))))
    ⟨⟨_, bO, World.ownsRow_nil _ _ _ _, by simp⟩, hB0, by simp⟩
    (fun y => { tmps := #[.slice A n cap, undef, .slice none 0 0, .pointer (some ⟨w.heap.size, 0, none⟩), pieceV b off n y.1, .slice A n cap, .func (.func 27) #[] #[.pointer (some ⟨w.heap.size + 1, 0, none⟩), .pointer (some ⟨w.heap.size + 2, 0, none⟩)], pieceV b off n y.1, undef, undef, undef, undef, undef, undef, undef, undef, undef, undef, undef, undef, undef], defers := [] }) ?assign ?body ?done ?stop
  case assign =>
    intro l y W K hK
    gi_wp2
    exact hK
  case body =>
    rintro l pre y W ⟨⟨v, hv, hrow, hfull⟩, hB, hsz⟩ hlt
    have hc0 := hv.cell
    have hf0 := hv.frozen
    have hyN := y.2
    have hbl := hbl' (by have := HNN.out; omega)
    have hBs := hB.size
    by_cases hf : 5 * y.1 + 5 ≤ n
    · obtain ⟨j, hj⟩ : ∃ j, 5 * y.1 = j := ⟨_, rfl⟩
      have hp : pieceV b off n y.1 = .slice (some ⟨b, off + j, none⟩) 5 5 := by unfold pieceV; rw [hj, Nat.min_eq_left (by omega)]
      have hpe : pieceE bs n y.1 = entAt bs y.1 := by unfold pieceE; rw [if_pos hf]
      have hbW : b < W.heap.size := by omega
      have c0 : W.cell? ⟨b, off + j, none⟩ = some (.int .u8 (bs.getD j 0)) := (hB.cell (p := ⟨b, _, none⟩) hbl).trans (HC.out j (by omega))
      have c1 : W.cell? ⟨b, off + j + 1, none⟩ = some (.int .u8 (bs.getD (j + 1) 0)) := (hB.cell (p := ⟨b, _, none⟩) hbl).trans (HC.out (j + 1) (by omega))
      have c2 : W.cell? ⟨b, off + j + 2, none⟩ = some (.int .u8 (bs.getD (j + 2) 0)) := (hB.cell (p := ⟨b, _, none⟩) hbl).trans (HC.out (j + 2) (by omega))
      have c3 : W.cell? ⟨b, off + j + 3, none⟩ = some (.int .u8 (bs.getD (j + 3) 0)) := (hB.cell (p := ⟨b, _, none⟩) hbl).trans (HC.out (j + 3) (by omega))
      have c4 : W.cell? ⟨b, off + j + 4, none⟩ = some (.int .u8 (bs.getD (j + 4) 0)) := (hB.cell (p := ⟨b, _, none⟩) hbl).trans (HC.out (j + 4) (by omega))
      obtain ⟨x0, x0'⟩ := HW.out j
      obtain ⟨x1, x1'⟩ := HW.out (j + 1)
      obtain ⟨x2, x2'⟩ := HW.out (j + 2)
      obtain ⟨x3, x3'⟩ := HW.out (j + 3)
      obtain ⟨x4, x4'⟩ := HW.out (j + 4)
      obtain ⟨ek, ec, et, er, em, ep, hE⟩ : ∃ ek ec et er em ep, rdF (bs.getD j 0) (bs.getD (j + 1) 0) (bs.getD (j + 2) 0) (bs.getD (j + 3) 0) (bs.getD (j + 4) 0) = ⟨ek, ec, et, er, em, ep⟩ := ⟨_, _, _, _, _, _, rfl⟩
      have hEk : Hid (pieceE bs n y.1 = ⟨ek, ec, et, er, em, ep⟩) := by
        show pieceE bs n y.1 = _
        rw [hpe, ← hE, ← hj]; rfl
      have HE := Lib.hid hE
      clear hE hpe
      generalize bs.getD j 0 = a0 at *
      generalize bs.getD (j + 1) 0 = a1 at *
      generalize bs.getD (j + 2) 0 = a2 at *
      generalize bs.getD (j + 3) 0 = a3 at *
      generalize bs.getD (j + 4) 0 = a4 at *
      have hpl : pre.length + 1 ≤ N := by omega
      have hk1 : pre.length + 1 ≤ maxLen := by have := HNN.out; unfold maxLen; omega
      have hk2 : (pre.length + 1) * 48 ≤ 140737488355328 := by have := HNN.out; omega
      have hlive := hv.lt
      have hne : some w.heap.size ≠ v.ownBlock := Ne.symm (own_ne hrow (by omega))
      have hfol : Tryd.prog.follows .mixedOrders = true := by kernel_rfl
      have HF := Lib.hid hfull
      clear hfull hj
      simp only [hp]
      clear hp
      gi_wp2
      gi_region_with_o (refine ⟨trivial, ?_⟩; gi_at_call 19; refine (CallsIn.inRound l (callsIn_wide.2 (read_eq b (off + j) a0 a1 a2 a3 a4 ek ec et er em ep W.drew HE.out c0 c1 c2 c3 c4 x0 x0' x1 x1' x2 x2' x3 x3' x4 x4'))).mono ?_; rintro e w1 ⟨rfl, hbr⟩; have hrow1 := below_own hrow.drew hbr; have hv1 : Boxed w1 w.heap.size 24 v := (hbr.block _ hlive).trans hv; obtain ⟨v', w2, hrun, hown2, hg2, g, cap', rfl⟩ := run_append_ent (w.heap.size + 3) 0 v pre.length _ w1 hrow1 ek ec et er em ep (Nat.le_trans hsz hbr.size) hk1 hk2; have hv1c := hv1.cell; have hv2 : Boxed w2 w.heap.size 24 v := (hv1.alloc _).kept hg2 hne; have hv2c := hv2.cell; have hv2f := hv2.frozen; simp [go_sem] at hrun; have hlt1 := hv1.lt; have hne1 : ¬ w.heap.size = w1.heap.size := Nat.ne_of_lt hlt1; have hva := (hv1.alloc (.cells #[.int .i64 ek, .int .i64 ec, .int .i64 et, .int .i64 er, .int .i64 em, .int .i64 ep] 30)).cell)
      all_goals (try gi_wp2)
      all_goals
        have hbW1 : Below W.heap.size W w1 := ⟨hbr.os, hbr.tape, hbr.output, hbr.size, hbr.block⟩
        obtain ⟨p1, p2, p3, p4, p5, p6⟩ := put_entry (n0 := w.heap.size) (by omega) (Nat.le_refl _) hsz hbW1 hv1 hrow1 hown2 hg2
        have hfe : flat ((pre ++ [y]).map fun y => pieceE bs n y.1) = flat (pre.map fun y => pieceE bs n y.1) ++ [.int .i64 ek, .int .i64 ec, .int .i64 et, .int .i64 er, .int .i64 em, .int .i64 ep] := by
          rw [List.map_append, List.map_cons, List.map_nil, flat_snoc, hEk.out]; rfl
        refine ⟨(keepsFrom_below hbW1).trans (p3.from _), p5, ⟨_, p1, ?_, ?_⟩, (hB.trans (hbW1.mono hBs)).trans p4, p6⟩
        · rw [hfe, List.length_append]; exact p2
        · intro z hz
          rcases List.mem_append.1 hz with hz | hz
          · exact HF.out z hz
          · rw [List.mem_singleton.1 hz]; exact hf
    · obtain ⟨j, hj⟩ : ∃ j, 5 * y.1 = j := ⟨_, rfl⟩
      obtain ⟨m, hm5⟩ : ∃ m, n - j = m := ⟨_, rfl⟩
      have hp : pieceV b off n y.1 = .slice (some ⟨b, off + j, none⟩) m m := by unfold pieceV; rw [hj, Nat.min_eq_right (by omega), hm5]
      have hEk : Hid (pieceE bs n y.1 = Ent.none) := by
        show pieceE bs n y.1 = _
        unfold pieceE; rw [if_neg hf]
      have hlt5 : (m : Int) < 5 := by omega
      have hk1 : pre.length + 1 ≤ maxLen := by have := HNN.out; unfold maxLen; omega
      have hk2 : (pre.length + 1) * 48 ≤ 140737488355328 := by have := HNN.out; omega
      have hne : some w.heap.size ≠ v.ownBlock := Ne.symm (own_ne hrow (by omega))
      have hlt1 := hv.lt
      obtain ⟨v', w2, hrun, hown2, hg2, g, cap', rfl⟩ := run_append_ent (w.heap.size + 3) 0 v pre.length _ W hrow 0 0 0 0 0 0 hsz hk1 hk2
      have hv2 : Boxed w2 w.heap.size 24 v := (hv.alloc _).kept hg2 hne
      have hv2c := hv2.cell
      have hv2f := hv2.frozen
      simp [go_sem] at hrun
      have HF := Lib.hid hfull
      clear hfull hj hm5
      simp only [hp]
      clear hp
      gi_wp2
      obtain ⟨p1, p2, p3, p4, p5, p6⟩ := put_entry (n0 := w.heap.size) (by omega) (Nat.le_refl _) hsz (Below.refl _ _) hv hrow hown2 hg2
      have hfe : flat ((pre ++ [y]).map fun y => pieceE bs n y.1) = flat (pre.map fun y => pieceE bs n y.1) ++ [.int .i64 0, .int .i64 0, .int .i64 0, .int .i64 0, .int .i64 0, .int .i64 0] := by
        rw [List.map_append, List.map_cons, List.map_nil, flat_snoc, hEk.out]; rfl
      refine ⟨p3.from _, rfl, ⟨_, p1, ?_, y, by simp, hf⟩, hB.trans p4⟩
      rw [hfe, List.length_append]; exact p2
  case done =>
    rintro D ys W hD rfl ⟨⟨v, hv, hrow, hfull⟩, hB, hsz⟩ hK
    have hc := hv.cell
    have hF : n = 5 * N := by
      have := HNN.out
      rcases Nat.eq_zero_or_pos N with h0 | h0
      · omega
      · have := hfull ⟨N - 1, by omega⟩ (List.mem_finRange _)
        simp only at this; omega
    have hpa : Hid (parsed bs = upto bs N) := by
      show parsed bs = _
      have := HN.out
      unfold parsed; rw [if_pos (by omega), List.append_nil, show bs.length / 5 = N from by omega]
    have hmap : Hid ((List.finRange N).map (fun y => pieceE bs n y.1) = upto bs N) := by
      show _ = _
      have := finMap (pieceE bs n) N N (Nat.le_refl _)
      rw [List.take_of_length_le (by simp)] at this
      rw [this]; unfold upto
      refine List.map_congr_left fun k hk => ?_
      have := List.mem_range.1 hk
      unfold pieceE; rw [if_pos (by omega)]
    have hlen : Hid ((List.finRange N).length = N) := by show (List.finRange N).length = N; simp
    have HF := Lib.hid hF
    clear hF hfull
    gi_wp2
    refine ⟨by simp, .inl ⟨_, _, rfl, run_takeDeferred hK, ?_⟩⟩
    refine ⟨_, results_tmp rfl _ _ _, ⟨v, rfl, ?_⟩, hB.trans (belowK_b (w := w) (Nat.le_refl _) W D _ _ (by simp at hD; omega) hK rfl rfl)⟩
    rw [hpa.out, upto_length, ← hmap.out]
    rw [hlen.out] at hrow
    exact ownsRow_putObj (own_weaken hrow (by omega)) _ hK rfl
  case stop =>
    rintro D c pre W hD ⟨k, hk, rfl⟩ ⟨rfl, ⟨v, hv, hrow, y, hy, hnf⟩, hB⟩ hK
    have hc := hv.cell
    have hkN : k = N ∧ y.1 + 1 = N := by
      have := HNN.out
      have h1 := y.2
      obtain ⟨i, hi, he⟩ := List.mem_iff_getElem.1 hy
      have hik : i < k := by have := hi; rw [List.length_take] at this; omega
      have hyi : y.1 = i := by rw [← he]; simp
      omega
    obtain ⟨hk1, hy1⟩ := hkN
    subst hk1
    have hpa : Hid (parsed bs = (List.finRange k).map (fun y => pieceE bs n y.1)) := by
      show _ = _
      have h5 := HNN.out
      have h6 := HN.out
      have := finMap (pieceE bs n) k k (Nat.le_refl _)
      rw [List.take_of_length_le (by simp)] at this
      rw [this, show k = (k - 1) + 1 from by omega, List.range_succ, List.map_append]
      unfold parsed
      rw [if_neg (by omega), show bs.length / 5 = k - 1 from by omega]
      congr 1
      · unfold upto
        refine List.map_congr_left fun i hi => ?_
        have := List.mem_range.1 hi
        unfold pieceE; rw [if_pos (by omega)]
      · simp only [List.map_cons, List.map_nil]
        unfold pieceE; rw [if_neg (by omega)]
    have hlen : Hid ((parsed bs).length = k) := by show (parsed bs).length = k; rw [hpa.out]; simp
    rw [List.take_of_length_le (by simp)] at hrow
    have hlf : (List.finRange k).length = k := by simp
    rw [hlf] at hrow
    have HR := Lib.hid hrow
    clear hrow hlf hy hnf hy1
    gi_wp2
    refine ⟨by simp, .inl ⟨_, _, rfl, run_takeDeferred hK, ?_⟩⟩
    refine ⟨_, results_tmp rfl _ _ _, ⟨v, rfl, ?_⟩, hB.trans (belowK_b (w := w) (Nat.le_refl _) W D _ _ (by simp at hD; omega) hK rfl rfl)⟩
    rw [hlen.out, hpa.out]
    exact ownsRow_putObj (own_weaken HR.out (by omega)) _ hK rfl

/-- the slice value (A, n) holds the bytes bs -/
def RdB (w : World) (A : Option Addr) (n : Nat) (bs : List Int) : Prop :=
  bs.length = n ∧ (∀ i, 0 ≤ bs.getD i 0 ∧ bs.getD i 0 ≤ 255) ∧ ∃ b off, (0 < n → A = some ⟨b, off, none⟩ ∧ b < w.heap.size) ∧ ∀ i, i < n → w.cell? ⟨b, off + i, none⟩ = some (.int .u8 (bs.getD i 0))

theorem parse_any (A : Option Addr) (n cap : Nat) (bs : List Int) (w : World) (h : RdB w A n bs) (hm : n ≤ 100000) (hcap : n ≤ cap) :
    Calls Tryd.prog 12 #[.slice A n cap] w fun e w' => (∃ v, e = .returned v ∧ w'.ownsRow w.heap.size 30 6 v (parsed bs).length (flat (parsed bs))) ∧ Below w.heap.size w w' := by
  obtain ⟨hn, hw, b, off, hA, hc⟩ := h
  exact (callsIn_wide (n := 5)).1 (parse_in b off n cap _ A (fun h => (hA h).1) bs w hn hm hcap rfl hc hw (fun h => (hA h).2))
end Go.Proofs.YtkmmhdghkbleaaaDoor

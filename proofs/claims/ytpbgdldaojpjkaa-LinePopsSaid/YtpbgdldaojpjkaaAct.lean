/-
  catchboltlaw07.act: one comes or leaves, by the number of what is done. No other conditions.
-/
import Derived.Test.YtpbgdldaojpjkaaPop
import Derived.Test.YtpbgdldaojpjkaaCode
namespace Go.Proofs.Ytpbgdldaojpjkaa
open Go.ChangeShapes Go.WideShapes Go.ChangeAt Go.RowKit
set_option linter.unusedVariables false

theorem code_any (k : Int) (w : World) (hk : k = 0 ∨ (1 ≤ k ∧ k ≤ 15)) : Calls Try.prog 9 #[errV k] w fun e w' => e = .returned (.int .i64 k) ∧ w = w' := by
  unfold errV
  by_cases h0 : k = 0
  · rw [if_pos h0, h0]; exact code_nil w
  · rw [if_neg h0]; exact code_errno k w (by omega) (by omega)

def actE (l : Lot) (lim k : Int) (e : Wt) : Int := if k = 0 then pushE l lim e else if k = 1 then leaveE l (popT l) else if k = 2 then leaveE l e.x else 0
def actW (l : Lot) (k : Int) (e : Wt) : Wt := if k = 1 then leaveW l (popT l) else if k = 2 then leaveW l e.x else Wt.none
def actL (l : Lot) (lim k : Int) (e : Wt) : Lot := if k = 0 then pushL l lim e else if k = 1 then leaveL l (popT l) else if k = 2 then leaveL l e.x else l
def ActOf (w w' : World) (B g : Nat) (lim : Int) (l : Lot) (S : Nat → Prop) (k : Int) (e : Wt) (r : Ending) : Prop :=
  r = .returned (.tuple #[(actW l k e).val, .int .i64 (actE l lim k e)]) ∧ LineX w' B g lim (actL l lim k e) S ∧ Below B w w' ∧ ∀ q, S q → w'.heap[q]? = w.heap[q]?

theorem pushE_range (l : Lot) (lim : Int) (e : Wt) : pushE l lim e = 0 ∨ (1 ≤ pushE l lim e ∧ pushE l lim e ≤ 15) := by
  unfold pushE
  split
  · omega
  · split
    · omega
    · split <;> omega
theorem leaveE_range (l : Lot) (t : Int) : leaveE l t = 0 ∨ (1 ≤ leaveE l t ∧ leaveE l t ≤ 15) := by
  unfold leaveE; split <;> omega

/-- what the last stores leave -/
theorem act_end {w w5 : World} {B g : Nat} {lim : Int} {l l' : Lot} {S : Nat → Prop} (hX : LineX w B g lim l S) (hBw : B ≤ w.heap.size) (h5 : LineX w5 B g lim l' (fun k => S k ∨ w.heap.size ≤ k ∧ k < w.heap.size + 2)) (hb : Below B w w5) (hk : ∀ q, S q → w5.heap[q]? = w.heap[q]?) (y0 y1 y2 y3 : Value) :
    LineX ((((w5.setCell ⟨w.heap.size + 1, 0, none⟩ y0).setCell ⟨w.heap.size + 1, 1, none⟩ y1).setCell ⟨w.heap.size + 1, 2, none⟩ y2).setCell ⟨w.heap.size + 1, 3, none⟩ y3) B g lim l' S ∧
    Below B w ((((w5.setCell ⟨w.heap.size + 1, 0, none⟩ y0).setCell ⟨w.heap.size + 1, 1, none⟩ y1).setCell ⟨w.heap.size + 1, 2, none⟩ y2).setCell ⟨w.heap.size + 1, 3, none⟩ y3) ∧
    ∀ q, S q → ((((w5.setCell ⟨w.heap.size + 1, 0, none⟩ y0).setCell ⟨w.heap.size + 1, 1, none⟩ y1).setCell ⟨w.heap.size + 1, 2, none⟩ y2).setCell ⟨w.heap.size + 1, 3, none⟩ y3).heap[q]? = w.heap[q]? := by
  have hs : S (w.heap.size + 1) ∨ w.heap.size ≤ w.heap.size + 1 ∧ w.heap.size + 1 < w.heap.size + 2 := .inr ⟨by omega, by omega⟩
  have hB1 : B ≤ w.heap.size + 1 := by omega
  refine ⟨LineX.sub (((((h5.set hs).set hs).set hs).set hs)) S (fun k hk => .inl hk), (((hb.setCell hB1 _).setCell hB1 _).setCell hB1 _).setCell hB1 _, fun q hq => ?_⟩
  have hqw : q < w.heap.size := by obtain ⟨_, _, _, _, _, _, _, _, _, h⟩ := hX; exact (h q hq).1
  have hne : q ≠ w.heap.size + 1 := by omega
  rw [Below.heap_setCell _ _ _ q hne, Below.heap_setCell _ _ _ q hne, Below.heap_setCell _ _ _ q hne, Below.heap_setCell _ _ _ q hne, hk q hq]

set_option maxRecDepth 100000 in
set_option maxHeartbeats 8000000 in
theorem act_any (B g : Nat) (lim : Int) (l : Lot) (S : Nat → Prop) (k x s m : Int) (u : Bool) (w : World) (hX : LineX w B g lim l S) (hBw : B ≤ w.heap.size) (hn : l.n ≤ 1000) :
    Calls Try.prog 10 #[.pointer (some ⟨g, 0, none⟩), .agg #[.int .i64 k, .int .i64 x, .int .i64 s, .int .i64 m, .bool u]] w fun r w' => ActOf w w' B g lim l S k ⟨x, s, m, u⟩ r := by
  have HSw : Hid (∀ k, S k → k < w.heap.size) := Lib.hid (fun k hk => by obtain ⟨_, _, _, _, _, _, _, _, _, h⟩ := hX; exact (h k hk).1)
  have HX := Lib.hid hX
  clear hX
  have hbA : Below w.heap.size w ((w.alloc (.cells #[.int .i64 k, .int .i64 x, .int .i64 s, .int .i64 m, .bool u] 35)).alloc (.cells #[.int .i64 0, .int .i64 0, .int .i64 0, .bool false] 33)) := ((Below.refl _ _).alloc (Nat.le_refl _) _).alloc (by simp) _
  have hX1 := HX.out.more hbA (fun k => S k ∨ w.heap.size ≤ k ∧ k < w.heap.size + 2) (fun k hk => by
    rcases hk with h | h
    · exact .inl h
    · right; simp; omega)
  have hz0 : ((w.alloc (.cells #[.int .i64 k, .int .i64 x, .int .i64 s, .int .i64 m, .bool u] 35)).alloc (.cells #[.int .i64 0, .int .i64 0, .int .i64 0, .bool false] 33)).heap[w.heap.size]? = some (.cells #[.int .i64 k, .int .i64 x, .int .i64 s, .int .i64 m, .bool u] 35 (0, 0)) := by
    rw [heap_push, heap_push]; simp
  have hz1 : ((w.alloc (.cells #[.int .i64 k, .int .i64 x, .int .i64 s, .int .i64 m, .bool u] 35)).alloc (.cells #[.int .i64 0, .int .i64 0, .int .i64 0, .bool false] 33)).heap[w.heap.size + 1]? = some (.cells #[.int .i64 0, .int .i64 0, .int .i64 0, .bool false] 33 (0, 0)) := by
    rw [heap_push]; simp
  have hsz : ((w.alloc (.cells #[.int .i64 k, .int .i64 x, .int .i64 s, .int .i64 m, .bool u] 35)).alloc (.cells #[.int .i64 0, .int .i64 0, .int .i64 0, .bool false] 33)).heap.size = w.heap.size + 2 := by simp
  have HX1 := Lib.hid hX1
  have HBA := Lib.hid hbA
  have HZ0 := Lib.hid hz0
  have HZ1 := Lib.hid hz1
  clear hX1 hbA hz0 hz1
  go_enter Try.func10, Try.ntmps10
  by_cases k0 : k = 0
  · subst k0
    go_wp2_with fail
    generalize (w.alloc (.cells #[.int .i64 0, .int .i64 x, .int .i64 s, .int .i64 m, .bool u] 35)).alloc (.cells #[.int .i64 0, .int .i64 0, .int .i64 0, .bool false] 33) = w1 at *
    refine (push_any B g lim l _ x s m u w1 HX1.out (by omega) hn).mono ?_
    rintro e w5 ⟨rfl, hX5, hB5, hk5⟩
    have hcode := code_any (pushE l lim ⟨x, s, m, u⟩) w5 (pushE_range _ _ _)
    have hk := (hk5 (w.heap.size + 1) (.inr ⟨by omega, by omega⟩)).trans HZ1.out
    have u0 : w5.cell? ⟨w.heap.size + 1, 0, none⟩ = some (.int .i64 0) := by simp [World.cell?, hk]
    have u1 : w5.cell? ⟨w.heap.size + 1, 1, none⟩ = some (.int .i64 0) := by simp [World.cell?, hk]
    have u2 : w5.cell? ⟨w.heap.size + 1, 2, none⟩ = some (.int .i64 0) := by simp [World.cell?, hk]
    have u3 : w5.cell? ⟨w.heap.size + 1, 3, none⟩ = some (.bool false) := by simp [World.cell?, hk]
    have d0 := frozen_of7 hk (j := 0)
    have d1 := frozen_of7 hk (j := 1)
    have d2 := frozen_of7 hk (j := 2)
    have d3 := frozen_of7 hk (j := 3)
    have hE : actE l lim 0 ⟨x, s, m, u⟩ = pushE l lim ⟨x, s, m, u⟩ := rfl
    have hEnd := act_end HX.out hBw hX5 ((HBA.out.mono hBw).trans hB5) (fun q hq => (hk5 q (.inl hq)).trans (HBA.out.block q (HSw.out q hq))) (.int .i64 0) (.int .i64 0) (.int .i64 0) (.bool false)
    obtain ⟨q0, q1, q2, q3⟩ := set4 u0 u1 u2 u3 (.int .i64 0) (.int .i64 0) (.int .i64 0) (.bool false)
    have HEnd := Lib.hid hEnd
    generalize hEV : errV (pushE l lim ⟨x, s, m, u⟩) = ev at *
    generalize hPE : pushE l lim ⟨x, s, m, u⟩ = pe at *
    have HC := Lib.hid hcode
    clear hX5 hB5 hk5 hk hEnd hcode
    go_wp2_with fail
    refine (HC.out).mono ?_
    rintro e w6 ⟨rfl, rfl⟩
    go_wp2
    refine bodyPost_ret (by simp [results, Try.results10, go_sem, q0, q1, q2, q3] <;> rfl) rfl ⟨?_, ?_, HEnd.out.2.1, HEnd.out.2.2⟩
    · rw [hE]; rfl
    · exact HEnd.out.1
  · by_cases k1 : k = 1
    · subst k1
      go_wp2_with fail
      generalize (w.alloc (.cells #[.int .i64 1, .int .i64 x, .int .i64 s, .int .i64 m, .bool u] 35)).alloc (.cells #[.int .i64 0, .int .i64 0, .int .i64 0, .bool false] 33) = w1 at *
      refine (pop_any B g lim l _ w1 HX1.out (by omega) hn).mono ?_
      rintro e w5 ⟨rfl, hX5, hB5, hk5⟩
      have hcode := fun w => code_any (leaveE l (popT l)) w (leaveE_range _ _)
      have hk := (hk5 (w.heap.size + 1) (.inr ⟨by omega, by omega⟩)).trans HZ1.out
      have hs5 : w.heap.size + 1 < w5.heap.size := (Array.getElem?_eq_some_iff.1 hk).1
      have hE : actE l lim 1 ⟨x, s, m, u⟩ = leaveE l (popT l) := rfl
      have hW : actW l 1 ⟨x, s, m, u⟩ = leaveW l (popT l) := rfl
      have hL : actL l lim 1 ⟨x, s, m, u⟩ = leaveL l (popT l) := rfl
      generalize hWW : leaveW l (popT l) = E at *
      obtain ⟨ex, es, em, eu⟩ := E
      rw [show (⟨ex, es, em, eu⟩ : Wt).val = .agg #[.int .i64 ex, .int .i64 es, .int .i64 em, .bool eu] from rfl]
      have hb6 : Below w5.heap.size w5 (w5.alloc (.cells #[.int .i64 ex, .int .i64 es, .int .i64 em, .bool eu] 33)) := (Below.refl _ _).alloc (Nat.le_refl _) _
      have hk6 := (hb6.block (w.heap.size + 1) hs5).trans hk
      have hEnd := act_end HX.out hBw (hX5.below hb6) (((HBA.out.mono hBw).trans hB5).trans (hb6.mono (by omega))) (fun q hq => (hb6.block q (Nat.lt_trans (HSw.out q hq) (by omega))).trans ((hk5 q (.inl hq)).trans (HBA.out.block q (HSw.out q hq)))) (.int .i64 ex) (.int .i64 es) (.int .i64 em) (.bool eu)
      have y0 : (w5.alloc (.cells #[.int .i64 ex, .int .i64 es, .int .i64 em, .bool eu] 33)).cell? ⟨w5.heap.size, 0, none⟩ = some (.int .i64 ex) := by simp
      have y1 : (w5.alloc (.cells #[.int .i64 ex, .int .i64 es, .int .i64 em, .bool eu] 33)).cell? ⟨w5.heap.size, 1, none⟩ = some (.int .i64 es) := by simp
      have y2 : (w5.alloc (.cells #[.int .i64 ex, .int .i64 es, .int .i64 em, .bool eu] 33)).cell? ⟨w5.heap.size, 2, none⟩ = some (.int .i64 em) := by simp
      have y3 : (w5.alloc (.cells #[.int .i64 ex, .int .i64 es, .int .i64 em, .bool eu] 33)).cell? ⟨w5.heap.size, 3, none⟩ = some (.bool eu) := by simp
      have hs6 : (w5.alloc (.cells #[.int .i64 ex, .int .i64 es, .int .i64 em, .bool eu] 33)).heap.size = w5.heap.size + 1 := by simp
      have u0 : (w5.alloc (.cells #[.int .i64 ex, .int .i64 es, .int .i64 em, .bool eu] 33)).cell? ⟨w.heap.size + 1, 0, none⟩ = some (.int .i64 0) := by unfold World.cell?; rw [hk6]; rfl
      have u1 : (w5.alloc (.cells #[.int .i64 ex, .int .i64 es, .int .i64 em, .bool eu] 33)).cell? ⟨w.heap.size + 1, 1, none⟩ = some (.int .i64 0) := by unfold World.cell?; rw [hk6]; rfl
      have u2 : (w5.alloc (.cells #[.int .i64 ex, .int .i64 es, .int .i64 em, .bool eu] 33)).cell? ⟨w.heap.size + 1, 2, none⟩ = some (.int .i64 0) := by unfold World.cell?; rw [hk6]; rfl
      have u3 : (w5.alloc (.cells #[.int .i64 ex, .int .i64 es, .int .i64 em, .bool eu] 33)).cell? ⟨w.heap.size + 1, 3, none⟩ = some (.bool false) := by unfold World.cell?; rw [hk6]; rfl
      have d0 : (w5.alloc (.cells #[.int .i64 ex, .int .i64 es, .int .i64 em, .bool eu] 33)).frozen? ⟨w.heap.size + 1, 0, none⟩ = false := frozen_of7 hk6 (j := 0)
      have d1 : (w5.alloc (.cells #[.int .i64 ex, .int .i64 es, .int .i64 em, .bool eu] 33)).frozen? ⟨w.heap.size + 1, 1, none⟩ = false := frozen_of7 hk6 (j := 1)
      have d2 : (w5.alloc (.cells #[.int .i64 ex, .int .i64 es, .int .i64 em, .bool eu] 33)).frozen? ⟨w.heap.size + 1, 2, none⟩ = false := frozen_of7 hk6 (j := 2)
      have d3 : (w5.alloc (.cells #[.int .i64 ex, .int .i64 es, .int .i64 em, .bool eu] 33)).frozen? ⟨w.heap.size + 1, 3, none⟩ = false := frozen_of7 hk6 (j := 3)
      obtain ⟨q0, q1, q2, q3⟩ := set4 u0 u1 u2 u3 (.int .i64 ex) (.int .i64 es) (.int .i64 em) (.bool eu)
      have HEnd := Lib.hid hEnd
      generalize errV (leaveE l (popT l)) = ev at *
      generalize leaveE l (popT l) = pe at *
      have HC := Lib.hid hcode
      have HWW := Lib.hid hW
      clear hX5 hB5 hk5 hk hEnd hcode hb6 hk6 hW hWW
      go_wp2
      generalize w5.alloc (.cells #[.int .i64 ex, .int .i64 es, .int .i64 em, .bool eu] 33) = w6 at *
      refine wp_region_N (S := (fun w' => w'.cell? ⟨w5.heap.size, 0, none⟩ = some (.int .i64 ex) ∧ w'.cell? ⟨w5.heap.size, 1, none⟩ = some (.int .i64 es) ∧ w'.cell? ⟨w5.heap.size, 2, none⟩ = some (.int .i64 em) ∧ w'.cell? ⟨w5.heap.size, 3, none⟩ = some (.bool eu))) (fun i => !(i == 3 || i == 4)) (by kernel_rfl) ?_ (fun hHeld => ?_)
      · (try dsimp only)
        first
          | (refine ⟨?_, ?_, ?_, ?_⟩ <;> with_reducible assumption)
          | (refine ⟨cell_keep ?_ y0, cell_keep ?_ y1, cell_keep ?_ y2, cell_keep ?_ y3⟩ <;> (go_grown; done))
      refine wpAnyN_take [3, 4] (i := 0) (v := ?_) rfl (by kernel_rfl) (by kernel_rfl) (by kernel_rfl) (by kernel_rfl) (by kernel_rfl) (fun _ _ _ h => h) (Or.inl ⟨by rfl, ?_⟩) (by assumption) ?_
      rotate_left
      focus
        intro w hSw
        (try dsimp only at hSw)
        go_simp
        try with_reducible rfl
      try (unfold Act.put; dsimp only)
      refine wpAnyN_take [2, 3, 4] (i := 1) (v := ?_) rfl (by kernel_rfl) (by kernel_rfl) (by kernel_rfl) (by kernel_rfl) (by kernel_rfl) (fun _ _ _ h => h) (Or.inl ⟨by rfl, ?_⟩) (by assumption) ?_
      rotate_left
      focus
        intro w hSw
        (try dsimp only at hSw)
        go_simp
        try with_reducible rfl
      try (unfold Act.put; dsimp only)
      refine wpAnyN_ready (rs := [2]) (by kernel_rfl) (by simp) ?_
      refine AllReadyN.cons rfl (fun K hK => ?_) ?_
      · go_simp
        go_at_call 9
        refine (HC.out _).mono ?_
        rintro e w7 ⟨rfl, rfl⟩
        dsimp only
        refine hK.out _ _ ?_ (fun hHeld => ?_)
        · (try dsimp only)
          first
            | (refine ⟨?_, ?_, ?_, ?_⟩ <;> with_reducible assumption)
            | (refine ⟨cell_keep ?_ y0, cell_keep ?_ y1, cell_keep ?_ y2, cell_keep ?_ y3⟩ <;> (go_grown; done))
        clear hK K
        try (unfold Act.put; dsimp only)
        refine wpAnyN_ready (rs := [3]) (by kernel_rfl) (by simp) ?_
        refine AllReadyN.last rfl rfl (fun K hK => ?_) ?_
        · go_simp
          refine hK.out _ _ ?_
          clear hK K
          try (unfold Act.put; dsimp only)
          refine wpAnyN_ready (rs := [4]) (by kernel_rfl) (by simp) ?_
          refine AllReadyN.last rfl rfl (fun K hK => ?_) ?_
          · go_simp
            refine hK.out _ _ ?_
            clear hK K
            try (unfold Act.put; dsimp only)
            refine wpAnyN_done (by kernel_rfl) ?_ _
            go_wp2
            refine bodyPost_ret (by simp [results, Try.results10, go_sem, q0, q1, q2, q3] <;> rfl) rfl ⟨?_, ?_, HEnd.out.2.1.drew, HEnd.out.2.2⟩
            · rw [hE, HWW.out]; rfl
            · exact HEnd.out.1.below (Below.drew (Below.refl _ _))
          exact AllReadyN.nil
        exact AllReadyN.nil
      exact AllReadyN.nil
    · by_cases k2 : k = 2
      · subst k2
        go_wp2_with fail
        generalize (w.alloc (.cells #[.int .i64 2, .int .i64 x, .int .i64 s, .int .i64 m, .bool u] 35)).alloc (.cells #[.int .i64 0, .int .i64 0, .int .i64 0, .bool false] 33) = w1 at *
        refine (leave_any B g lim l _ x w1 HX1.out (by omega) hn).mono ?_
        rintro e w5 ⟨rfl, hX5, hB5, hk5⟩
        have hcode := fun w => code_any (leaveE l x) w (leaveE_range _ _)
        have hk := (hk5 (w.heap.size + 1) (.inr ⟨by omega, by omega⟩)).trans HZ1.out
        have hs5 : w.heap.size + 1 < w5.heap.size := (Array.getElem?_eq_some_iff.1 hk).1
        have hE : actE l lim 2 ⟨x, s, m, u⟩ = leaveE l x := rfl
        have hW : actW l 2 ⟨x, s, m, u⟩ = leaveW l x := rfl
        have hL : actL l lim 2 ⟨x, s, m, u⟩ = leaveL l x := rfl
        generalize hWW : leaveW l x = E at *
        obtain ⟨ex, es, em, eu⟩ := E
        rw [show (⟨ex, es, em, eu⟩ : Wt).val = .agg #[.int .i64 ex, .int .i64 es, .int .i64 em, .bool eu] from rfl]
        have hb6 : Below w5.heap.size w5 (w5.alloc (.cells #[.int .i64 ex, .int .i64 es, .int .i64 em, .bool eu] 33)) := (Below.refl _ _).alloc (Nat.le_refl _) _
        have hk6 := (hb6.block (w.heap.size + 1) hs5).trans hk
        have hEnd := act_end HX.out hBw (hX5.below hb6) (((HBA.out.mono hBw).trans hB5).trans (hb6.mono (by omega))) (fun q hq => (hb6.block q (Nat.lt_trans (HSw.out q hq) (by omega))).trans ((hk5 q (.inl hq)).trans (HBA.out.block q (HSw.out q hq)))) (.int .i64 ex) (.int .i64 es) (.int .i64 em) (.bool eu)
        have y0 : (w5.alloc (.cells #[.int .i64 ex, .int .i64 es, .int .i64 em, .bool eu] 33)).cell? ⟨w5.heap.size, 0, none⟩ = some (.int .i64 ex) := by simp
        have y1 : (w5.alloc (.cells #[.int .i64 ex, .int .i64 es, .int .i64 em, .bool eu] 33)).cell? ⟨w5.heap.size, 1, none⟩ = some (.int .i64 es) := by simp
        have y2 : (w5.alloc (.cells #[.int .i64 ex, .int .i64 es, .int .i64 em, .bool eu] 33)).cell? ⟨w5.heap.size, 2, none⟩ = some (.int .i64 em) := by simp
        have y3 : (w5.alloc (.cells #[.int .i64 ex, .int .i64 es, .int .i64 em, .bool eu] 33)).cell? ⟨w5.heap.size, 3, none⟩ = some (.bool eu) := by simp
        have hs6 : (w5.alloc (.cells #[.int .i64 ex, .int .i64 es, .int .i64 em, .bool eu] 33)).heap.size = w5.heap.size + 1 := by simp
        have u0 : (w5.alloc (.cells #[.int .i64 ex, .int .i64 es, .int .i64 em, .bool eu] 33)).cell? ⟨w.heap.size + 1, 0, none⟩ = some (.int .i64 0) := by unfold World.cell?; rw [hk6]; rfl
        have u1 : (w5.alloc (.cells #[.int .i64 ex, .int .i64 es, .int .i64 em, .bool eu] 33)).cell? ⟨w.heap.size + 1, 1, none⟩ = some (.int .i64 0) := by unfold World.cell?; rw [hk6]; rfl
        have u2 : (w5.alloc (.cells #[.int .i64 ex, .int .i64 es, .int .i64 em, .bool eu] 33)).cell? ⟨w.heap.size + 1, 2, none⟩ = some (.int .i64 0) := by unfold World.cell?; rw [hk6]; rfl
        have u3 : (w5.alloc (.cells #[.int .i64 ex, .int .i64 es, .int .i64 em, .bool eu] 33)).cell? ⟨w.heap.size + 1, 3, none⟩ = some (.bool false) := by unfold World.cell?; rw [hk6]; rfl
        have d0 : (w5.alloc (.cells #[.int .i64 ex, .int .i64 es, .int .i64 em, .bool eu] 33)).frozen? ⟨w.heap.size + 1, 0, none⟩ = false := frozen_of7 hk6 (j := 0)
        have d1 : (w5.alloc (.cells #[.int .i64 ex, .int .i64 es, .int .i64 em, .bool eu] 33)).frozen? ⟨w.heap.size + 1, 1, none⟩ = false := frozen_of7 hk6 (j := 1)
        have d2 : (w5.alloc (.cells #[.int .i64 ex, .int .i64 es, .int .i64 em, .bool eu] 33)).frozen? ⟨w.heap.size + 1, 2, none⟩ = false := frozen_of7 hk6 (j := 2)
        have d3 : (w5.alloc (.cells #[.int .i64 ex, .int .i64 es, .int .i64 em, .bool eu] 33)).frozen? ⟨w.heap.size + 1, 3, none⟩ = false := frozen_of7 hk6 (j := 3)
        obtain ⟨q0, q1, q2, q3⟩ := set4 u0 u1 u2 u3 (.int .i64 ex) (.int .i64 es) (.int .i64 em) (.bool eu)
        have HEnd := Lib.hid hEnd
        generalize errV (leaveE l x) = ev at *
        generalize leaveE l x = pe at *
        have HC := Lib.hid hcode
        have HWW := Lib.hid hW
        clear hX5 hB5 hk5 hk hEnd hcode hb6 hk6 hW hWW
        go_wp2
        generalize w5.alloc (.cells #[.int .i64 ex, .int .i64 es, .int .i64 em, .bool eu] 33) = w6 at *
        refine wp_region_N (S := (fun w' => w'.cell? ⟨w5.heap.size, 0, none⟩ = some (.int .i64 ex) ∧ w'.cell? ⟨w5.heap.size, 1, none⟩ = some (.int .i64 es) ∧ w'.cell? ⟨w5.heap.size, 2, none⟩ = some (.int .i64 em) ∧ w'.cell? ⟨w5.heap.size, 3, none⟩ = some (.bool eu))) (fun i => !(i == 3 || i == 4)) (by kernel_rfl) ?_ (fun hHeld => ?_)
        · (try dsimp only)
          first
            | (refine ⟨?_, ?_, ?_, ?_⟩ <;> with_reducible assumption)
            | (refine ⟨cell_keep ?_ y0, cell_keep ?_ y1, cell_keep ?_ y2, cell_keep ?_ y3⟩ <;> (go_grown; done))
        refine wpAnyN_take [3, 4] (i := 0) (v := ?_) rfl (by kernel_rfl) (by kernel_rfl) (by kernel_rfl) (by kernel_rfl) (by kernel_rfl) (fun _ _ _ h => h) (Or.inl ⟨by rfl, ?_⟩) (by assumption) ?_
        rotate_left
        focus
          intro w hSw
          (try dsimp only at hSw)
          go_simp
          try with_reducible rfl
        try (unfold Act.put; dsimp only)
        refine wpAnyN_take [2, 3, 4] (i := 1) (v := ?_) rfl (by kernel_rfl) (by kernel_rfl) (by kernel_rfl) (by kernel_rfl) (by kernel_rfl) (fun _ _ _ h => h) (Or.inl ⟨by rfl, ?_⟩) (by assumption) ?_
        rotate_left
        focus
          intro w hSw
          (try dsimp only at hSw)
          go_simp
          try with_reducible rfl
        try (unfold Act.put; dsimp only)
        refine wpAnyN_ready (rs := [2]) (by kernel_rfl) (by simp) ?_
        refine AllReadyN.cons rfl (fun K hK => ?_) ?_
        · go_simp
          go_at_call 9
          refine (HC.out _).mono ?_
          rintro e w7 ⟨rfl, rfl⟩
          dsimp only
          refine hK.out _ _ ?_ (fun hHeld => ?_)
          · (try dsimp only)
            first
              | (refine ⟨?_, ?_, ?_, ?_⟩ <;> with_reducible assumption)
              | (refine ⟨cell_keep ?_ y0, cell_keep ?_ y1, cell_keep ?_ y2, cell_keep ?_ y3⟩ <;> (go_grown; done))
          clear hK K
          try (unfold Act.put; dsimp only)
          refine wpAnyN_ready (rs := [3]) (by kernel_rfl) (by simp) ?_
          refine AllReadyN.last rfl rfl (fun K hK => ?_) ?_
          · go_simp
            refine hK.out _ _ ?_
            clear hK K
            try (unfold Act.put; dsimp only)
            refine wpAnyN_ready (rs := [4]) (by kernel_rfl) (by simp) ?_
            refine AllReadyN.last rfl rfl (fun K hK => ?_) ?_
            · go_simp
              refine hK.out _ _ ?_
              clear hK K
              try (unfold Act.put; dsimp only)
              refine wpAnyN_done (by kernel_rfl) ?_ _
              go_wp2
              refine bodyPost_ret (by simp [results, Try.results10, go_sem, q0, q1, q2, q3] <;> rfl) rfl ⟨?_, ?_, HEnd.out.2.1.drew, HEnd.out.2.2⟩
              · rw [hE, HWW.out]; rfl
              · exact HEnd.out.1.below (Below.drew (Below.refl _ _))
            exact AllReadyN.nil
          exact AllReadyN.nil
        exact AllReadyN.nil
      · have b0 : (k == 0) = false := by simp [k0]
        have b1 : (k == 1) = false := by simp [k1]
        have b2 : (k == 2) = false := by simp [k2]
        have hW : actW l k ⟨x, s, m, u⟩ = Wt.none := by unfold actW; rw [if_neg k1, if_neg k2]
        have hE : actE l lim k ⟨x, s, m, u⟩ = 0 := by unfold actE; rw [if_neg k0, if_neg k1, if_neg k2]
        have hL : actL l lim k ⟨x, s, m, u⟩ = l := by unfold actL; rw [if_neg k0, if_neg k1, if_neg k2]
        have HBF := Lib.hid (show ∀ W, Below w.heap.size w W → ActOf w W B g lim l S k ⟨x, s, m, u⟩ (.returned (.tuple #[.agg #[.int .i64 0, .int .i64 0, .int .i64 0, .bool false], .int .i64 0])) from fun W hW' =>
          ⟨by rw [hW, hE]; rfl, by rw [hL]; exact HX.out.below hW', hW'.mono hBw, HX.out.kept hW'⟩)
        clear k0 k1 k2 hsz hW hE hL
        go_wp2
        go_returns
        refine HBF.out _ ?_
        go_grown
end Go.Proofs.Ytpbgdldaojpjkaa

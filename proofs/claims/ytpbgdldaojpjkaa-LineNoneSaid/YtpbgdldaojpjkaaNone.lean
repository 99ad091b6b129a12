/-
  The walk of catchboltlaw07.LineNone. No conditions.
-/
import Derived.Test.YtpbgdldaojpjkaaActR
namespace Go.Proofs.Ytpbgdldaojpjkaa
open Go.ChangeShapes Go.WideShapes Go.ChangeAt Go.RowKit
set_option linter.unusedVariables false

set_option maxHeartbeats 1000000 in
theorem push_none (x s m : Int) (u : Bool) (w : World) :
    Calls Try.prog 20 #[.pointer none, .agg #[.int .i64 x, .int .i64 s, .int .i64 m, .bool u]] w fun r w' => r = .returned (.iface 55 (.int .i64 1)) ∧ Below w.heap.size w w' := by
  go_enter Try.func20, Try.ntmps20
  go_wp2
  go_ret
  exact ⟨rfl, by go_grown⟩

/-- a row that may be written -/
def WRow (w : World) (B : Nat) (A : Option Addr) (n : Nat) : Prop :=
  n = 0 ∨ ∃ g cs, A = some ⟨g, 0, none⟩ ∧ B ≤ g ∧ w.heap[g]? = some (.cells cs 33 (0, 0)) ∧ n * 4 ≤ cs.size

theorem WRow.set {w : World} {B n g j : Nat} {A : Option Addr} {u : Value} (h : WRow w B A n) : WRow (w.setCell ⟨g, j, none⟩ u) B A n := by
  rcases h with h | ⟨g', cs, hA, hB, hg, hn⟩
  · exact .inl h
  · refine .inr ?_
    by_cases e : g = g'
    · subst e
      exact ⟨g, cs.setIfInBounds j u, hA, hB, heap_setCell_same w g j cs _ u hg, by simpa using hn⟩
    · exact ⟨g', cs, hA, hB, by rw [Below.heap_setCell _ _ _ g' (fun h => e h.symm)]; exact hg, hn⟩
theorem WRow.below {w w1 : World} {B n : Nat} {A : Option Addr} (h : WRow w B A n) (hb : Below w.heap.size w w1) : WRow w1 B A n := by
  rcases h with h | ⟨g', cs, hA, hB, hg, hn⟩
  · exact .inl h
  · exact .inr ⟨g', cs, hA, hB, (hb.block g' (Array.getElem?_eq_some_iff.1 hg).1).trans hg, hn⟩
theorem wrow_of_own {w : World} {B n m : Nat} {A : Option Addr} {c : Nat} {es : List Wt} (h : w.ownsRow B 33 4 (.slice A n c) n (flatW es)) (hm : m ≤ n) : WRow w B A m := by
  rcases h.2 with ⟨h', h0⟩ | ⟨g', cap', cur, h', hb, hg, hnc, hcm, hcs, htake⟩
  · exact .inl (by omega)
  · cases h'
    exact .inr ⟨g', cur, rfl, hb, hg, by rw [hcs]; omega⟩
theorem cell_some {w : World} {g j : Nat} {cs : Array Value} {T : TypeId} (h : w.heap[g]? = some (.cells cs T (0, 0))) (hj : j < cs.size) : w.cell? ⟨g, j, none⟩ = some cs[j] := by
  simp [World.cell?, h, hj]

set_option maxRecDepth 100000 in
set_option maxHeartbeats 4000000 in
theorem ahead_own (B g : Nat) (lim : Int) (l : Lot) (S : Nat → Prop) (t : Int) (w : World) (hX : LineX w B g lim l S) (hn : l.n ≤ 1000) :
    Calls Try.prog 17 #[.pointer (some ⟨g, 0, none⟩), .int .i64 t] w fun e w' => (∃ A n c, e = .returned (.slice A n c) ∧ n = aheadN l t ∧ n ≤ c ∧ WRow w' w.heap.size A n) ∧ Below w.heap.size w w' := by
  have HX := Lib.hid hX
  have hbA : Below w.heap.size w (w.alloc (.cells #[.int .i64 t] 3)) := (Below.refl _ _).alloc (Nat.le_refl _) _
  clear hX
  go_enter Try.func17, Try.ntmps17
  go_wp2_with fail
  refine (all_x B g lim l S _ (HX.out.below hbA) hn).mono ?_
  rintro e w2 ⟨⟨v2, rfl, hown2⟩, hb2⟩
  have hB2 := hbA.trans (hb2.mono hbA.size)
  have hown3 := own_weaken hown2 (B' := w.heap.size) (by simp)
  obtain ⟨hlen, A2, cap2, rfl, hcap2, r2⟩ := rdw_of_own hown2
  have hbox := (hb2.cell (p := ⟨w.heap.size, 0, none⟩) (by simp)).trans (by simp : _ = some (.int .i64 t))
  have hall : l.all.length = l.n := by simp [Lot.all, Lot.n]
  have hfl := findW_le l.all t
  go_wp2_with fail
  refine (index_any w.heap.size A2 l.n cap2 l.all t w2 r2 hall (by omega) hbox).mono ?_
  rintro e w5 ⟨rfl, hb5⟩
  have hB5 := hB2.trans (hb5.mono hB2.size)
  have r5 := r2.below hb5
  by_cases hf : findW l.all t < l.n
  · have hfi : findI l.all t = (findW l.all t : Int) := by unfold findI; rw [if_pos (by rw [hall]; exact hf)]
    rw [hfi]
    have HR := Lib.hid (show aheadN l t = findW l.all t from if_pos hf)
    have RT := Lib.hid ((wrow_of_own hown3 (m := findW l.all t) (by omega)).below hb5)
    generalize findW l.all t = j at *
    have hj0 : (0 : Int) ≤ j := by omega
    have hjc : (j : Int) ≤ cap2 := by omega
    clear hfi r5 r2 hown2 hown3
    go_wp2
    all_goals
      go_ret
      exact ⟨⟨A2, j, j, rfl, HR.out.symm, Nat.le_refl _, RT.out⟩, hB5⟩
  · have hfi : findI l.all t = -1 := by unfold findI; rw [if_neg (by rw [hall]; exact hf)]
    rw [hfi]
    have HR := Lib.hid (show aheadN l t = 0 from if_neg hf)
    clear hfi r5 r2 hown2 hown3 hf
    go_wp2
    all_goals
      go_ret
      exact ⟨⟨none, 0, 0, rfl, HR.out.symm, Nat.le_refl _, .inl rfl⟩, hB5⟩



theorem zero_box {W : World} : (W.alloc (.cells #[.int .i64 0, .int .i64 0, .int .i64 0, .bool false] 33)).heap[W.heap.size]? = some (.cells #[.int .i64 0, .int .i64 0, .int .i64 0, .bool false] 33 (0, 0)) := heap_alloc_new W _

set_option maxRecDepth 100000 in
set_option maxHeartbeats 16000000 in
theorem none_true (t : Int) (A1 : Option Addr) (N c1 : Nat) (es : List Wt) (w : World) (hr : RdW w A1 es) (hl : es.length = N) :
    Calls Try.prog 5 #[.slice A1 N c1, .int .i64 t] w fun e w' => e = .returned (.bool true) ∧ Below w.heap.size w w' := by
  have HR := Lib.hid hr
  have HLN := Lib.hid hl
  clear hr hl
  go_enter Try.func5, Try.ntmps5
  go_wp2_with fail
  refine (alive_true _).mono ?_
  rintro e w1 ⟨rfl, hb1⟩
  have HBp := Lib.hid hb1
  go_wp2_with fail
  refine (pop_none w1).mono ?_
  rintro e w2 ⟨rfl, hb2⟩
  have hs2 := hb2.size
  have HB2 := Lib.hid (HBp.out.trans (hb2.mono HBp.out.size))
  have hsb2 : (w2.alloc (.cells #[.int .i64 0, .int .i64 0, .int .i64 0, .bool false] 33)).heap.size = w2.heap.size + 1 := by simp
  have HC2 := Lib.hid (HB2.out.trans (((Below.refl w2.heap.size w2).alloc (Nat.le_refl _) (.cells #[.int .i64 0, .int .i64 0, .int .i64 0, .bool false] 33)).mono HB2.out.size))
  have HD2 := Lib.hid ((Below.refl w2.heap.size w2).alloc (Nat.le_refl _) (.cells #[.int .i64 0, .int .i64 0, .int .i64 0, .bool false] 33))
  have HZ2 := Lib.hid (zero_box (W := w2))
  clear hb2
  go_wp2_with fail
  generalize w2.alloc (.cells #[.int .i64 0, .int .i64 0, .int .i64 0, .bool false] 33) = v2 at *
  have HBp := HC2
  refine (leave_none t v2).mono ?_
  rintro e w3 ⟨rfl, hb3⟩
  have HZ2 := Lib.hid ((hb3.block _ (by omega)).trans HZ2.out)
  have hs3 := hb3.size
  have HB3 := Lib.hid (HBp.out.trans (hb3.mono HBp.out.size))
  have hsb3 : (w3.alloc (.cells #[.int .i64 0, .int .i64 0, .int .i64 0, .bool false] 33)).heap.size = w3.heap.size + 1 := by simp
  have HC3 := Lib.hid (HB3.out.trans (((Below.refl w3.heap.size w3).alloc (Nat.le_refl _) (.cells #[.int .i64 0, .int .i64 0, .int .i64 0, .bool false] 33)).mono HB3.out.size))
  have HD3 := Lib.hid ((Below.refl w3.heap.size w3).alloc (Nat.le_refl _) (.cells #[.int .i64 0, .int .i64 0, .int .i64 0, .bool false] 33))
  have HZ3 := Lib.hid (zero_box (W := w3))
  clear hb3
  go_wp2_with fail
  generalize w3.alloc (.cells #[.int .i64 0, .int .i64 0, .int .i64 0, .bool false] 33) = v3 at *
  have HBp := HC3
  have HZ2 := Lib.hid ((HD3.out.block _ (by omega)).trans HZ2.out)
  refine (find_none t v3).mono ?_
  rintro e w4 ⟨rfl, hb4⟩
  have HZ2 := Lib.hid ((hb4.block _ (by omega)).trans HZ2.out)
  have HZ3 := Lib.hid ((hb4.block _ (by omega)).trans HZ3.out)
  have hs4 := hb4.size
  have HB4 := Lib.hid (HBp.out.trans (hb4.mono HBp.out.size))
  have hsb4 : (w4.alloc (.cells #[.int .i64 0, .int .i64 0, .int .i64 0, .bool false] 33)).heap.size = w4.heap.size + 1 := by simp
  have HC4 := Lib.hid (HB4.out.trans (((Below.refl w4.heap.size w4).alloc (Nat.le_refl _) (.cells #[.int .i64 0, .int .i64 0, .int .i64 0, .bool false] 33)).mono HB4.out.size))
  have HD4 := Lib.hid ((Below.refl w4.heap.size w4).alloc (Nat.le_refl _) (.cells #[.int .i64 0, .int .i64 0, .int .i64 0, .bool false] 33))
  have HZ4 := Lib.hid (zero_box (W := w4))
  clear hb4
  have hz2 := (HD4.out.block _ (by omega)).trans HZ2.out
  have hz3 := (HD4.out.block _ (by omega)).trans HZ3.out
  obtain ⟨a0, a1, a2, a3⟩ := blk_cells hz2
  obtain ⟨b0, b1, b2, b3⟩ := blk_cells hz3
  obtain ⟨d0, d1, d2, d3⟩ := blk_cells HZ4.out
  clear hz2 hz3
  go_wp2_with fail
  generalize w4.alloc (.cells #[.int .i64 0, .int .i64 0, .int .i64 0, .bool false] 33) = v4 at *
  refine (code_errno 1 v4 (by omega) (by omega)).mono ?_
  rintro e w' ⟨rfl, rfl⟩
  go_wp2_with fail
  refine (code_errno 1 v4 (by omega) (by omega)).mono ?_
  rintro e w' ⟨rfl, rfl⟩
  go_wp2_with fail
  refine (code_errno 1 v4 (by omega) (by omega)).mono ?_
  rintro e w' ⟨rfl, rfl⟩
  go_wp2_with fail
  refine (push_none 1 1 1 false v4).mono ?_
  rintro e w5 ⟨rfl, hb5⟩
  have HB5 := Lib.hid (HC4.out.trans (hb5.mono HC4.out.size))
  clear hb5
  go_wp2_with fail
  refine (code_errno 1 w5 (by omega) (by omega)).mono ?_
  rintro e w' ⟨rfl, rfl⟩
  go_wp2_with fail
  refine (ahead_none t w5).mono ?_
  rintro e w6 ⟨rfl, hb6⟩
  have HB6 := Lib.hid (HB5.out.trans (hb6.mono HB5.out.size))
  clear hb6
  go_wp2_with fail
  refine (all_none w6).mono ?_
  rintro e w' ⟨rfl, rfl⟩
  go_wp2_with fail
  have HBx := HB6
  refine (new_ok 64 w6 (by omega) (by omega)).mono ?_
  rintro e w7 ⟨rfl, hw7⟩
  have hX := new_line w6 64
  have hb7 : Below w6.heap.size w6 (w6.alloc (.cells #[.int .i64 64, .slice none 0 0, .slice none 0 0] 58)) := (Below.refl _ _).alloc (Nat.le_refl _) _
  rw [hw7] at hX hb7
  clear hw7
  have HX := Lib.hid hX
  have HB7 := Lib.hid hb7
  have hs07 := HB6.out.size
  have hs67 := hb7.size
  have HR7 := Lib.hid ((HR.out.below HB6.out).below hb7)
  clear hX hb7
  by_cases hN : 200 < N
  · have hN' : (200 : Int) < N := by omega
    go_wp2_with fail
    go_ret
    exact ⟨rfl, HB6.out.trans (HB7.out.mono HB6.out.size)⟩
  · have hN' : ¬ (200 : Int) < N := by omega
    go_wp2_with fail
    go_loopw [14, 15] (fun v i wr => ∃ (k : Nat) (A : Option Addr) (n c : Nat) (l : Lot), k ≤ N ∧ i = .int .i64 k ∧ v = .slice A n c ∧ ListIs wr A n c l.all ∧ l.right ∧ (l.n : Int) ≤ 64 ∧ LineX wr w6.heap.size w6.heap.size 64 l (SA A) ∧ Below w6.heap.size w7 wr) (fun _ i _ => N - (intOf i).toNat)
    case atStart => exact ⟨0, none, 0, 0, ⟨[], []⟩, by omega, rfl, rfl, listIs_nil _, ⟨fun e h => by simp at h, fun e h => by simp at h⟩, by simp [Lot.n], HX.out.sub _ (fun k ⟨off, h⟩ => by simp at h), Below.refl _ _⟩
    case round =>
      obtain ⟨k, A, n, c, l, hk, rfl, rfl, hL, hri, hln, hXr, hbr⟩ := hrel
      have hsr := hbr.size
      by_cases hlt : k < N
      · have hlt' : (k : Int) < N := by omega
        have hk0 : (0 : Int) ≤ k := by omega
        obtain ⟨gx, ox, hAx, hcx⟩ := (HR.out.below HB6.out)
        obtain ⟨rfl, hgx⟩ := hAx (by rw [HLN.out]; omega)
        have hcx2 := hcx k (by rw [HLN.out]; exact hlt)
        have hbw : Below w6.heap.size w6 wr := HB7.out.trans hbr
        obtain ⟨p0, p1, p2, p3⟩ := hcx2.below hbw hgx
        have hgr : gx < wr.heap.size := by omega
        clear hAx hcx hcx2 hbw
        generalize es.getD k Wt.none = E at *
        obtain ⟨ex, es', em, eu⟩ := E
        simp only at p0 p1 p2 p3
        have hl5 := hL.2.1
        rw [Lot.all_length] at hl5
        have hpush := fun W => push_any w6.heap.size w6.heap.size 64 l (SA A) ex es' em eu W
        have hE := pushE_range l 64 ⟨ex, es', em, eu⟩
        have hpe : dPushE l.all 64 ⟨ex, es', em, eu⟩ = pushE l 64 ⟨ex, es', em, eu⟩ := pushE_doc l 64 _ hln
        obtain ⟨hdoc0, hdoc1, hdoc2⟩ := push_doc l 64 ⟨ex, es', em, eu⟩ hri hln
        have hrp := fun W => rpush_v A n c l.all 64 ex es' em eu W
        rw [hpe, hdoc0] at hrp
        have HX8 := Lib.hid hXr
        have HL8 := Lib.hid hL
        have HBr := Lib.hid hbr
        clear hXr hL hbr hpe hdoc0 hE
        have HP := Lib.hid (hpush wr HX8.out (by omega) (by omega))
        clear hpush
        unfold PushOf at HP
        generalize pushL l 64 ⟨ex, es', em, eu⟩ = L8 at *
        generalize pushE l 64 ⟨ex, es', em, eu⟩ = pe at *
        have HRP := Lib.hid hrp
        have HD1 := Lib.hid hdoc1
        have HD2 := Lib.hid hdoc2
        clear hrp hdoc1 hdoc2
        go_wp2_with fail
        refine (HP.out).mono ?_
        rintro e w8 ⟨rfl, hX9, hb9, hk9⟩
        have hs9 := hb9.size
        have hL9 := HL8.out.kept (by omega) hk9
        have q0 := (hb9.cell (p := ⟨gx, _, none⟩) hgx).trans p0
        have q1 := (hb9.cell (p := ⟨gx, _, none⟩) hgx).trans p1
        have q2 := (hb9.cell (p := ⟨gx, _, none⟩) hgx).trans p2
        have q3 := (hb9.cell (p := ⟨gx, _, none⟩) hgx).trans p3
        have HX9 := Lib.hid hX9
        have HB9 := Lib.hid (HBr.out.trans hb9)
        have HL9 := Lib.hid hL9
        clear p0 p1 p2 p3 hX9 hb9 hk9 hL9
        go_wp2_with fail
        refine (HRP.out w8 HL9.out (by omega)).mono ?_
        rintro e w10 ⟨⟨v10, rfl, A10, n10, c10, rfl, hL10, hS10⟩, hb10⟩
        have hs10 := hb10.size
        have HL10 := Lib.hid hL10
        have HX10 := Lib.hid (HX9.out.more hb10 (SA A10) (fun q hq => by
          rcases hS10 q hq with h | h
          · exact .inl h
          · exact .inr h))
        have HB10 := Lib.hid (HB9.out.trans (hb10.mono (by omega)))
        clear hL10 hS10 hb10
        go_wp2_with fail
        refine ⟨⟨k + 1, A10, n10, c10, L8, by omega, by simp, rfl, HL10.out, HD1.out, HD2.out, HX10.out, HB10.out⟩, ?_⟩
        simp only [intOf]
        omega
      · have hge : ¬ (k : Int) < N := by omega
        obtain ⟨wo, rfl⟩ : ∃ wo : World, wo = wr := ⟨_, rfl⟩
        have hl5 := hL.2.1
        rw [Lot.all_length] at hl5
        have HX8 := Lib.hid hXr
        have HL8 := Lib.hid hL
        have HBr := Lib.hid hbr
        clear hXr hL hbr
        go_wp2_with fail
        refine (all_x w6.heap.size w6.heap.size 64 l (SA A) wo HX8.out (by omega)).mono ?_
        rintro e w8 ⟨⟨v8, rfl, hown8⟩, hb8⟩
        obtain ⟨hl8, A8, c8, rfl, hc8, hr8⟩ := rdw_of_own hown8
        have HW8 := Lib.hid (wrow_of_own hown8 (Nat.le_refl _))
        have HX9 := Lib.hid (HX8.out.more hb8 (SA A) (fun q hq => .inl hq))
        have hs8 := hb8.size
        have HB8 := Lib.hid hb8
        have hln8 : l.n ≤ c8 := hc8
        clear hown8 hr8 hb8 hl8 hc8
        go_wp2_with fail
        refine (ahead_own w6.heap.size w6.heap.size 64 l (SA A) t w8 HX9.out (by omega)).mono ?_
        rintro e w9 ⟨⟨A9, n9, c9, rfl, hn9, hc9, hW9⟩, hb9⟩
        have hs9 := hb9.size
        have HQ9 := Lib.hid hW9
        have HP9 := Lib.hid (HW8.out.below hb9)
        have HB9 := Lib.hid (HB8.out.trans (hb9.mono hs8))
        have hn9b : n9 ≤ 64 := by
          rw [hn9]; unfold aheadN; split <;> omega
        clear hW9 hb9 hn9
        go_wp2_with fail
        go_loopw [18] (fun i wr => ∃ k : Nat, k ≤ l.n ∧ i = .int .i64 k ∧ WRow wr wo.heap.size A8 l.n ∧ WRow wr w8.heap.size A9 n9 ∧ Below wo.heap.size wo wr) (fun i _ => l.n - (intOf i).toNat)
        case atStart => exact ⟨0, by omega, rfl, HP9.out, HQ9.out, HB9.out⟩
        case round =>
          obtain ⟨k, hk, rfl, hW, hQ, hbr⟩ := hrel
          have hsr := hbr.size
          by_cases hlt : k < l.n
          · have tk1 := trivial
            have hlt' : (k : Int) < l.n := by omega
            have hk0 : (0 : Int) ≤ k := by omega
            have HW := Lib.hid hW
            have HQ := Lib.hid hQ
            have HBR := Lib.hid hbr
            obtain ⟨g, cs, rfl, hBg, hg, hcs⟩ := HW.out.resolve_left (by omega)
            obtain ⟨x0, m0⟩ : ∃ x, wr.cell? ⟨g, k * 4, none⟩ = some x := ⟨_, cell_some hg (by omega)⟩
            obtain ⟨x1, m1⟩ : ∃ x, wr.cell? ⟨g, k * 4 + 1, none⟩ = some x := ⟨_, cell_some hg (by omega)⟩
            obtain ⟨x2, m2⟩ : ∃ x, wr.cell? ⟨g, k * 4 + 2, none⟩ = some x := ⟨_, cell_some hg (by omega)⟩
            obtain ⟨x3, m3⟩ : ∃ x, wr.cell? ⟨g, k * 4 + 3, none⟩ = some x := ⟨_, cell_some hg (by omega)⟩
            have f0 := frozen_of7 hg (j := k * 4)
            have f1 := frozen_of7 hg (j := k * 4 + 1)
            have f2 := frozen_of7 hg (j := k * 4 + 2)
            have f3 := frozen_of7 hg (j := k * 4 + 3)
            clear hW hbr hg hcs
            go_wp2_with fail
            refine ⟨⟨k + 1, by omega, by simp, HW.out.set.set.set.set, HQ.out.set.set.set.set, (((HBR.out.setCell hBg _).setCell hBg _).setCell hBg _).setCell hBg _⟩, ?_⟩
            simp only [intOf]
            omega
          · have hge : ¬ (k : Int) < l.n := by omega
            have HQ := Lib.hid hQ
            have HBR := Lib.hid hbr
            obtain ⟨wp, rfl⟩ : ∃ wp : World, wp = wr := ⟨_, rfl⟩
            clear hQ hW hbr
            go_wp2_with fail
            go_loopw [19] (fun i wr => ∃ k : Nat, k ≤ n9 ∧ i = .int .i64 k ∧ WRow wr w8.heap.size A9 n9 ∧ Below wo.heap.size wo wr) (fun i _ => n9 - (intOf i).toNat)
            case atStart => exact ⟨0, by omega, rfl, HQ.out, HBR.out⟩
            case round =>
              obtain ⟨k, hk, rfl, hW, hbr⟩ := hrel
              have hsr := hbr.size
              by_cases hlt : k < n9
              · have hQ := hW
                have hlt' : (k : Int) < n9 := by omega
                have hk0 : (0 : Int) ≤ k := by omega
                have HW := Lib.hid hW
                have HQ := Lib.hid hQ
                have HBR := Lib.hid hbr
                obtain ⟨g, cs, rfl, hBg, hg, hcs⟩ := HW.out.resolve_left (by omega)
                obtain ⟨x0, m0⟩ : ∃ x, wr.cell? ⟨g, k * 4, none⟩ = some x := ⟨_, cell_some hg (by omega)⟩
                obtain ⟨x1, m1⟩ : ∃ x, wr.cell? ⟨g, k * 4 + 1, none⟩ = some x := ⟨_, cell_some hg (by omega)⟩
                obtain ⟨x2, m2⟩ : ∃ x, wr.cell? ⟨g, k * 4 + 2, none⟩ = some x := ⟨_, cell_some hg (by omega)⟩
                obtain ⟨x3, m3⟩ : ∃ x, wr.cell? ⟨g, k * 4 + 3, none⟩ = some x := ⟨_, cell_some hg (by omega)⟩
                have f0 := frozen_of7 hg (j := k * 4)
                have f1 := frozen_of7 hg (j := k * 4 + 1)
                have f2 := frozen_of7 hg (j := k * 4 + 2)
                have f3 := frozen_of7 hg (j := k * 4 + 3)
                clear hW hbr hg hcs
                go_wp2_with fail
                refine ⟨⟨k + 1, by omega, by simp, HW.out.set.set.set.set, (((HBR.out.setCell (Nat.le_trans hs8 hBg) _).setCell (Nat.le_trans hs8 hBg) _).setCell (Nat.le_trans hs8 hBg) _).setCell (Nat.le_trans hs8 hBg) _⟩, ?_⟩
                simp only [intOf]
                omega
              · have hge : ¬ (k : Int) < n9 := by omega
                have HBR := Lib.hid hbr
                clear hW hbr
                go_wp2_with fail
                refine (all_x w6.heap.size w6.heap.size 64 l (SA A) wr (HX8.out.below HBR.out) (by omega)).mono ?_
                rintro e w10 ⟨⟨v10, rfl, hown10⟩, hb10⟩
                obtain ⟨hl10, A10, c10, rfl, hc10, hr10⟩ := rdw_of_own hown10
                have HL10 := Lib.hid (HL8.out.below (HBR.out.trans (hb10.mono (by omega))))
                have HR10 := Lib.hid hr10
                have HB10 := Lib.hid (HBR.out.trans (hb10.mono (by omega)))
                have hs10 := hb10.size
                clear hl10 hr10 hown10 hb10
                subst hl5
                go_wp2_with fail
                refine (same_true A10 A l.n c10 c l.all w10 HR10.out HL10.out.1 (Lot.all_length l) (by omega)).mono ?_
                rintro e w11 ⟨rfl, hb11⟩
                have HB11 := Lib.hid (HB6.out.trans ((HB7.out.trans (HBr.out.trans ((HB10.out.trans (hb11.mono (by omega))).mono (by omega)))).mono (by omega)))
                clear hb11
                go_wp2_with fail
                go_ret
                exact ⟨rfl, HB11.out⟩
end Go.Proofs.Ytpbgdldaojpjkaa

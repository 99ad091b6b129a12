/-
  catchboltref20.Of: what a trace says of a transaction. No conditions.
-/
import Derived.Test.YtggkohkngockoaaDoorPRef1
namespace Go.Proofs.YtggkohkngockoaaDoor
open Go.ChangeShapes Go.WideShapes Go.ChangeAt Go.RowKit Go.Maps
set_option linter.unusedVariables false
set_option linter.unusedSimpArgs false

def ofC (x : RTx) : Array Value := #[.int .i64 x.state, .int .i64 x.client, .int .i64 x.table, .int .i64 x.row, .int .i64 x.mode, .bool x.asked]
/-- block b holds what is said of a transaction -/
def OfAt (w : World) (b : Nat) (x : RTx) : Prop := w.heap[b]? = some (.cells (ofC x) 77 (0, 0))

set_option maxRecDepth 100000 in
set_option maxHeartbeats 4000000 in
theorem of_any (A : Option Addr) (n cp : Nat) (es : List Ev) (t : Int) (w : World) (hr : RdE w A es) (hl : es.length = n) (hn : n ≤ 1000) :
    Calls Tryd.prog 28 #[.slice A n cp, .int .i64 t] w fun e w' => e = .returned (.agg (ofC (ofR es t))) ∧ Below w.heap.size w w' := by
  have HR := Lib.hid hr
  have HL := Lib.hid hl
  clear hr hl
  go_enter Tryd.func28, Tryd.ntmps28
  go_wp2
  have hb1 : Below w.heap.size w ((w.alloc (.cells (ofC rtx0) 77)).alloc (.cells (ofC rtx0) 77)) := by go_grown
  have ha1 : OfAt ((w.alloc (.cells (ofC rtx0) 77)).alloc (.cells (ofC rtx0) 77)) (w.heap.size + 1) rtx0 := by unfold OfAt; rw [heap_push, if_pos (by simp)]
  have hr1 : OfAt ((w.alloc (.cells (ofC rtx0) 77)).alloc (.cells (ofC rtx0) 77)) w.heap.size rtx0 := by unfold OfAt; rw [heap_push, if_neg (by simp), heap_push, if_pos rfl]
  change Below w.heap.size w ((w.alloc (.cells #[.int .i64 0, .int .i64 0, .int .i64 0, .int .i64 0, .int .i64 0, .bool false] 77)).alloc (.cells #[.int .i64 0, .int .i64 0, .int .i64 0, .int .i64 0, .int .i64 0, .bool false] 77)) at hb1
  change OfAt ((w.alloc (.cells #[.int .i64 0, .int .i64 0, .int .i64 0, .int .i64 0, .int .i64 0, .bool false] 77)).alloc (.cells #[.int .i64 0, .int .i64 0, .int .i64 0, .int .i64 0, .int .i64 0, .bool false] 77)) (w.heap.size + 1) rtx0 at ha1
  change OfAt ((w.alloc (.cells #[.int .i64 0, .int .i64 0, .int .i64 0, .int .i64 0, .int .i64 0, .bool false] 77)).alloc (.cells #[.int .i64 0, .int .i64 0, .int .i64 0, .int .i64 0, .int .i64 0, .bool false] 77)) w.heap.size rtx0 at hr1
  generalize (w.alloc (.cells #[.int .i64 0, .int .i64 0, .int .i64 0, .int .i64 0, .int .i64 0, .bool false] 77)).alloc (.cells #[.int .i64 0, .int .i64 0, .int .i64 0, .int .i64 0, .int .i64 0, .bool false] 77) = w1 at *
  have HB1 := Lib.hid hb1
  have HA1 := Lib.hid ha1
  have HR1 := Lib.hid hr1
  clear hb1 ha1 hr1
  go_loopw [6] (fun i wr => ∃ k : Nat, k ≤ n ∧ i = .int .i64 k ∧ Below w.heap.size w wr ∧ OfAt wr w.heap.size rtx0 ∧ OfAt wr (w.heap.size + 1) (ofR (es.take k) t)) (fun i _ => n - (intOf i).toNat)
  case atStart => exact ⟨0, Nat.zero_le _, rfl, HB1.out, HR1.out, HA1.out⟩
  case round =>
    obtain ⟨k, hk, rfl, hbr, hrb, hoa⟩ := hrel
    obtain ⟨⟨s0, s1, s2, s3, s4, s5⟩, hx⟩ : ∃ x, ofR (es.take k) t = x := ⟨_, rfl⟩
    rw [hx] at hoa
    have HBR := Lib.hid hbr
    have HRB := Lib.hid hrb
    have HOA := Lib.hid hoa
    have d0 := heap_cell hoa (j := 0) (u := .int .i64 s0) rfl
    have d1 := heap_cell hoa (j := 1) (u := .int .i64 s1) rfl
    have d2 := heap_cell hoa (j := 2) (u := .int .i64 s2) rfl
    have d3 := heap_cell hoa (j := 3) (u := .int .i64 s3) rfl
    have d4 := heap_cell hoa (j := 4) (u := .int .i64 s4) rfl
    have d5 := heap_cell hoa (j := 5) (u := .bool s5) rfl
    have f0 := heap_free hoa (j := 0)
    have f1 := heap_free hoa (j := 1)
    have f2 := heap_free hoa (j := 2)
    have f3 := heap_free hoa (j := 3)
    have f4 := heap_free hoa (j := 4)
    have f5 := heap_free hoa (j := 5)
    by_cases hlt : k < n
    · have hlt' : (k : Int) < n := by omega
      have hkl : k < es.length := by rw [HL.out]; exact hlt
      obtain ⟨ge, oe, hA, hc⟩ := (HR.out.below hbr (Nat.le_refl _))
      obtain ⟨rfl, lge⟩ := hA (by rw [HL.out]; omega)
      obtain ⟨p0, p1, p2, p3, p4, p5, p6⟩ := hc k hkl
      have HKL := Lib.hid hkl
      clear hA hc hkl
      obtain ⟨E, hE⟩ : ∃ E, es.getD k Ev.none = E := ⟨_, rfl⟩
      have HE := Lib.hid hE
      rw [hE] at p0 p1 p2 p3 p4 p5 p6
      clear hE
      obtain ⟨ek, ec, ex, et, er, em, eq⟩ := E
      simp only at p0 p1 p2 p3 p4 p5 p6
      have hsn := of_take t HKL.out
      rw [HE.out, hx] at hsn
      have lge' : ge < wr.heap.size := lge
      have ng1 : ¬ ge = w.heap.size + 1 := fun e => by
        obtain ⟨g', o', hA', _⟩ := HR.out
        have hA2 := hA' (by rw [HL.out]; omega)
        obtain ⟨e1, e2⟩ := hA2
        cases e1
        omega
      have ng2 : ¬ w.heap.size + 1 = ge := fun e => ng1 e.symm
      clear hx hbr hrb hoa
      by_cases h2 : ex = t
      · subst h2
        by_cases h8 : ek = 8
        · subst h8
          have HS : Hid (ofR (es.take (k + 1)) ex = ⟨s0, s1, s2, s3, s4, s5⟩) := Lib.hid (by rw [hsn]; simp [ofStep])
          clear hsn
          go_wp2
          go_roundw
          case rel => exact ⟨k + 1, by omega, by go_num, HBR.out, HRB.out, by rw [HS.out]; exact HOA.out⟩
          case measure => simp [intOf]; omega
        by_cases h1 : ek = 1
        · subst h1
          have HS : Hid (ofR (es.take (k + 1)) ex = ⟨1, ec, s2, s3, s4, s5⟩) := Lib.hid (by rw [hsn]; simp [ofStep])
          clear hsn h8
          go_wp2
          go_roundw
          case rel => exact ⟨k + 1, by omega, by go_num, (HBR.out.setCell (Nat.le_succ _) _).setCell (Nat.le_succ _) _, (heap_set _ _ _ _ _ (by omega)).trans ((heap_set _ _ _ _ _ (by omega)).trans HRB.out), by rw [HS.out]; exact heap_put _ _ 1 _ _ _ (heap_put _ _ 0 _ _ _ HOA.out)⟩
          case measure => simp [intOf]; omega
        by_cases h2 : ek = 2
        · subst h2
          have HS : Hid (ofR (es.take (k + 1)) ex = ⟨s0, s1, et, er, em, true⟩) := Lib.hid (by rw [hsn]; simp [ofStep])
          clear hsn h8 h1
          go_wp2
          go_roundw
          case rel => exact ⟨k + 1, by omega, by go_num, (((HBR.out.setCell (Nat.le_succ _) _).setCell (Nat.le_succ _) _).setCell (Nat.le_succ _) _).setCell (Nat.le_succ _) _, (heap_set _ _ _ _ _ (by omega)).trans ((heap_set _ _ _ _ _ (by omega)).trans ((heap_set _ _ _ _ _ (by omega)).trans ((heap_set _ _ _ _ _ (by omega)).trans HRB.out))), by rw [HS.out]; exact heap_put _ _ 5 _ _ _ (heap_put _ _ 4 _ _ _ (heap_put _ _ 3 _ _ _ (heap_put _ _ 2 _ _ _ HOA.out)))⟩
          case measure => simp [intOf]; omega
        by_cases h3 : ek = 3
        · subst h3
          have HS : Hid (ofR (es.take (k + 1)) ex = ⟨s0, s1, s2, s3, 0, s5⟩) := Lib.hid (by rw [hsn]; simp [ofStep])
          clear hsn h8 h1 h2
          go_wp2
          go_roundw
          case rel => exact ⟨k + 1, by omega, by go_num, HBR.out.setCell (Nat.le_succ _) _, (heap_set _ _ _ _ _ (by omega)).trans HRB.out, by rw [HS.out]; exact heap_put _ _ 4 _ _ _ HOA.out⟩
          case measure => simp [intOf]; omega
        by_cases h4 : ek = 4
        · subst h4
          have HS : Hid (ofR (es.take (k + 1)) ex = ⟨s0, s1, s2, s3, 0, s5⟩) := Lib.hid (by rw [hsn]; simp [ofStep])
          clear hsn h8 h1 h2 h3
          go_wp2
          go_roundw
          case rel => exact ⟨k + 1, by omega, by go_num, HBR.out.setCell (Nat.le_succ _) _, (heap_set _ _ _ _ _ (by omega)).trans HRB.out, by rw [HS.out]; exact heap_put _ _ 4 _ _ _ HOA.out⟩
          case measure => simp [intOf]; omega
        by_cases h5 : ek = 5
        · subst h5
          have HS : Hid (ofR (es.take (k + 1)) ex = ⟨2, s1, s2, s3, s4, s5⟩) := Lib.hid (by rw [hsn]; simp [ofStep])
          clear hsn h8 h1 h2 h3 h4
          go_wp2
          go_roundw
          case rel => exact ⟨k + 1, by omega, by go_num, HBR.out.setCell (Nat.le_succ _) _, (heap_set _ _ _ _ _ (by omega)).trans HRB.out, by rw [HS.out]; exact heap_put _ _ 0 _ _ _ HOA.out⟩
          case measure => simp [intOf]; omega
        by_cases h6 : ek = 6
        · subst h6
          have HS : Hid (ofR (es.take (k + 1)) ex = ⟨3, s1, s2, s3, s4, s5⟩) := Lib.hid (by rw [hsn]; simp [ofStep])
          clear hsn h8 h1 h2 h3 h4 h5
          go_wp2
          go_roundw
          case rel => exact ⟨k + 1, by omega, by go_num, HBR.out.setCell (Nat.le_succ _) _, (heap_set _ _ _ _ _ (by omega)).trans HRB.out, by rw [HS.out]; exact heap_put _ _ 0 _ _ _ HOA.out⟩
          case measure => simp [intOf]; omega
        by_cases h7 : ek = 7
        · subst h7
          have HS : Hid (ofR (es.take (k + 1)) ex = ⟨4, s1, s2, s3, s4, s5⟩) := Lib.hid (by rw [hsn]; simp [ofStep])
          clear hsn h8 h1 h2 h3 h4 h5 h6
          go_wp2
          go_roundw
          case rel => exact ⟨k + 1, by omega, by go_num, HBR.out.setCell (Nat.le_succ _) _, (heap_set _ _ _ _ _ (by omega)).trans HRB.out, by rw [HS.out]; exact heap_put _ _ 0 _ _ _ HOA.out⟩
          case measure => simp [intOf]; omega
        have HS : Hid (ofR (es.take (k + 1)) ex = ⟨s0, s1, s2, s3, s4, s5⟩) := Lib.hid (by rw [hsn]; simp [ofStep, h1, h2, h3, h4, h5, h6, h7, h8])
        have b1 : (ek == 1) = false := by simpa using h1
        have b2 : (ek == 2) = false := by simpa using h2
        have b3 : (ek == 3) = false := by simpa using h3
        have b4 : (ek == 4) = false := by simpa using h4
        have b5 : (ek == 5) = false := by simpa using h5
        have b6 : (ek == 6) = false := by simpa using h6
        have b7 : (ek == 7) = false := by simpa using h7
        have b8 : (ek == 8) = false := by simpa using h8
        clear hsn h8 h1 h2 h3 h4 h5 h6 h7
        go_wp2
        go_roundw
        case rel => exact ⟨k + 1, by omega, by go_num, HBR.out, HRB.out, by rw [HS.out]; exact HOA.out⟩
        case measure => simp [intOf]; omega
      · have h2b : (ex == t) = false := by simpa using h2
        have h2c : (ex != t) = true := by simpa using h2
        have HS : Hid (ofR (es.take (k + 1)) t = ⟨s0, s1, s2, s3, s4, s5⟩) := Lib.hid (by rw [hsn]; unfold ofStep; rw [if_pos (.inl h2)])
        clear hsn h2
        go_wp2
        go_roundw
        case rel => exact ⟨k + 1, by omega, by go_num, HBR.out, HRB.out, by rw [HS.out]; exact HOA.out⟩
        case measure => simp [intOf]; omega
    · have hkn : k = n := by omega
      subst hkn
      have hge : ¬ (k : Int) < k := by omega
      have hT : es.take k = es := List.take_of_length_le (by rw [HL.out]; exact Nat.le_refl _)
      rw [hT] at hx
      have HXE := Lib.hid hx
      have r0 := heap_cell hrb (j := 0) (u := .int .i64 0) rfl
      have r1 := heap_cell hrb (j := 1) (u := .int .i64 0) rfl
      have r2 := heap_cell hrb (j := 2) (u := .int .i64 0) rfl
      have r3 := heap_cell hrb (j := 3) (u := .int .i64 0) rfl
      have r4 := heap_cell hrb (j := 4) (u := .int .i64 0) rfl
      have r5 := heap_cell hrb (j := 5) (u := .bool false) rfl
      have g0 := heap_free hrb (j := 0)
      have g1 := heap_free hrb (j := 1)
      have g2 := heap_free hrb (j := 2)
      have g3 := heap_free hrb (j := 3)
      have g4 := heap_free hrb (j := 4)
      have g5 := heap_free hrb (j := 5)
      clear hT hx hbr hrb hoa
      go_wp2
      have hWf := heap_put _ w.heap.size 5 _ _ (.bool s5) (heap_put _ w.heap.size 4 _ _ (.int .i64 s4) (heap_put _ w.heap.size 3 _ _ (.int .i64 s3) (heap_put _ w.heap.size 2 _ _ (.int .i64 s2) (heap_put _ w.heap.size 1 _ _ (.int .i64 s1) (heap_put _ w.heap.size 0 _ _ (.int .i64 s0) HRB.out)))))
      have q0 := heap_cell hWf (j := 0) (u := .int .i64 s0) rfl
      have q1 := heap_cell hWf (j := 1) (u := .int .i64 s1) rfl
      have q2 := heap_cell hWf (j := 2) (u := .int .i64 s2) rfl
      have q3 := heap_cell hWf (j := 3) (u := .int .i64 s3) rfl
      have q4 := heap_cell hWf (j := 4) (u := .int .i64 s4) rfl
      have q5 := heap_cell hWf (j := 5) (u := .bool s5) rfl
      refine bodyPost_ret (by simp [results, Tryd.results28, go_sem, q0, q1, q2, q3, q4, q5] <;> rfl) rfl ?_
      refine ⟨by rw [HXE.out]; rfl, ?_⟩
      exact (((((HBR.out.setCell (Nat.le_refl _) _).setCell (Nat.le_refl _) _).setCell (Nat.le_refl _) _).setCell (Nat.le_refl _) _).setCell (Nat.le_refl _) _).setCell (Nat.le_refl _) _
end Go.Proofs.YtggkohkngockoaaDoor

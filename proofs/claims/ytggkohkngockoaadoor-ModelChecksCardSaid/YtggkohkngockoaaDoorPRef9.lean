/-
  catchboltref20.Next at any event; Check and Serial; catchboltlaw20.ModelChecks. The condition of the last: errors.errorType reads as the program's text lays it.
-/
import Derived.Test.YtggkohkngockoaaDoorPRef8a
import Derived.Test.YtggkohkngockoaaDoorPRef8b
import Derived.Test.YtggkohkngockoaaDoorPRef8c
import Derived.Test.YtggkohkngockoaaDoorPRefG
import Derived.Test.YtggkohkngockoaaDoorPBegins
namespace Go.Proofs.YtggkohkngockoaaDoor
open Go.ChangeShapes Go.WideShapes Go.ChangeAt Go.RowKit Go.Maps
set_option linter.unusedVariables false
set_option linter.unusedSimpArgs false

theorem rnext_any (A : Option Addr) (n cp : Nat) (es : List Ev) (e : Ev) (w : World) (hr : RdE w A es) (hl : es.length = n) (hn : n ≤ 1000) (hla : 0 ≤ lastR es ∧ lastR es ≤ 1000) (hm1 : 0 ≤ modeR es e.tx e.table e.row ∧ modeR es e.tx e.table e.row ≤ 4) (hm2 : 0 ≤ (ofR es e.tx).mode ∧ (ofR es e.tx).mode ≤ 4) :
    Calls Tryd.prog 19 #[.slice A n cp, .agg (evC e)] w fun r w' => r = .returned (.int .i64 (nextR es e)) ∧ Below w.heap.size w w' := by
  cases hf : formB e with
  | false => exact rnext_bad A n cp es e w hr hl hn hf
  | true =>
    have hk := form_kind hf
    have hc : e.kind = 1 ∨ e.kind = 2 ∨ e.kind = 3 ∨ e.kind = 4 ∨ e.kind = 5 ∨ e.kind = 6 ∨ e.kind = 7 ∨ e.kind = 8 := by omega
    rcases hc with h | h | h | h | h | h | h | h
    · exact rnext_1 A n cp es e w hr hl hn hf h hla
    · exact rnext_2 A n cp es e w hr hl hn hf h
    · exact rnext_3 A n cp es e w hr hl hn hf h hm1 hm2
    · exact rnext_4 A n cp es e w hr hl hn hf h
    · exact rnext_5 A n cp es e w hr hl hn hf h
    · exact rnext_6 A n cp es e w hr hl hn hf h
    · exact rnext_7 A n cp es e w hr hl hn hf h
    · exact rnext_8 A n cp es e w hr hl hn hf h
theorem rde_take {w : World} {A : Option Addr} {es : List Ev} (h : RdE w A es) (k : Nat) : RdE w A (es.take k) := by
  obtain ⟨g, off, hA, hc⟩ := h
  refine ⟨g, off, fun q => hA (by rw [List.length_take] at q; omega), fun i hi => ?_⟩
  have hi2 : i < k ∧ i < es.length := by rw [List.length_take] at hi; omega
  have := hc i hi2.2
  rwa [show (es.take k).getD i Ev.none = es.getD i Ev.none by rw [List.getD_eq_getElem?_getD, List.getD_eq_getElem?_getD, List.getElem?_take_of_lt hi2.1]]
theorem check_stop {l : List Ev} {k : Nat} (h : GoodR l k) (hk : k < l.length) (h0 : ¬ nextR (l.take k) (l.getD k Ev.none) = 0) : checkR l = ((k : Int), nextR (l.take k) (l.getD k Ev.none)) := by
  have key : ∀ m i, i + m = l.length → i ≤ k → GoodR l i → checkFrom l i m = ((k : Int), nextR (l.take k) (l.getD k Ev.none)) := by
    intro m
    induction m with
    | zero => intro i hi hik _; omega
    | succ m ih =>
      intro i hi hik hg
      unfold checkFrom
      rcases Nat.lt_or_ge i k with q | q
      · rw [if_pos (h i q)]
        exact ih (i + 1) (by omega) (by omega) (fun j hj => h j (by omega))
      · obtain rfl : i = k := by omega
        rw [if_neg h0]
  exact key l.length 0 (by omega) (by omega) (fun j hj => absurd hj (Nat.not_lt_zero _))
theorem check_all {l : List Ev} (h : GoodR l l.length) : checkR l = (-1, 0) := by
  have key : ∀ m i, i + m = l.length → checkFrom l i m = (-1, 0) := by
    intro m
    induction m with
    | zero => intro i _; rfl
    | succ m ih =>
      intro i hi
      unfold checkFrom
      rw [if_pos (h i (by omega))]
      exact ih (i + 1) (by omega)
  exact key l.length 0 (by omega)
set_option maxRecDepth 100000 in
set_option maxHeartbeats 8000000 in
theorem rcheck_any (A : Option Addr) (n cp : Nat) (es : List Ev) (w : World) (hr : RdE w A es) (hl : es.length = n) (hn : n ≤ 1000) (hcp : n ≤ cp) :
    Calls Tryd.prog 10 #[.slice A n cp] w fun r w' => r = .returned (.tuple #[.int .i64 (checkR es).1, .int .i64 (checkR es).2]) ∧ Below w.heap.size w w' := by
  have HR := Lib.hid hr
  have HL := Lib.hid hl
  clear hr hl
  go_enter Tryd.func10, Tryd.ntmps10
  go_wp2
  go_loopw [4] (fun i wr => ∃ k : Nat, k ≤ n ∧ i = .int .i64 k ∧ Below w.heap.size w wr ∧ GoodR es k) (fun i _ => n - (intOf i).toNat)
  case atStart => exact ⟨0, Nat.zero_le _, rfl, Below.refl _ _, fun j hj => absurd hj (Nat.not_lt_zero _)⟩
  case round =>
    obtain ⟨k, hk, rfl, hbr, hgo⟩ := hrel
    have HBR := Lib.hid hbr
    have HGO := Lib.hid hgo
    clear hbr hgo
    by_cases hlt : k < n
    · have hlt' : (k : Int) < n := by omega
      have hkc : (k : Int) ≤ cp := by omega
      have hkc' : k ≤ cp := by omega
      have HRR := Lib.hid (HR.out.below HBR.out (Nat.le_refl _))
      have hkl : k < es.length := by rw [HL.out]; exact hlt
      obtain ⟨ge, oe, hA, hc⟩ := (HRR.out)
      obtain ⟨rfl, lge⟩ := hA (by rw [HL.out]; omega)
      obtain ⟨p0, p1, p2, p3, p4, p5, p6⟩ := hc k hkl
      have HKL := Lib.hid hkl
      clear hA hc hkl
      obtain ⟨E, hE⟩ : ∃ E, es.getD k Ev.none = E := ⟨_, rfl⟩
      have HE := Lib.hid hE
      rw [hE] at p0 p1 p2 p3 p4 p5 p6
      clear hE
      obtain ⟨ek, ec, ex, et, er, em, eq⟩ := E
      simp only at p0 p1 p2 p3 p4 p5 p6
      have hgi := good_in HGO.out (by rw [HL.out]; omega) ⟨ek, ec, ex, et, er, em, eq⟩
      try dsimp only at hgi
      have HNX := Lib.hid (fun W (hb : Below wr.heap.size wr W) => rnext_any (some ⟨ge, oe, none⟩) k cp (es.take k) ⟨ek, ec, ex, et, er, em, eq⟩ W ((rde_take HR.out k).below (HBR.out.trans (hb.mono HBR.out.size)) (Nat.le_refl _)) (by rw [List.length_take]; have := HL.out; omega) (by omega) ⟨hgi.1.1, by omega⟩ hgi.2.1 hgi.2.2)
      clear hgi
      unfold evC at HNX
      try dsimp only at HNX
      have hst := fun q => check_stop HGO.out HKL.out q
      rw [HE.out] at hst
      obtain ⟨x, hx⟩ : ∃ x, nextR (es.take k) ⟨ek, ec, ex, et, er, em, eq⟩ = x := ⟨_, rfl⟩
      rw [hx] at hst HNX
      have HX := Lib.hid hx
      have HST := Lib.hid hst
      clear hx hst
      by_cases h0 : x = 0
      · subst h0
        have HG2 : Hid (GoodR es (k + 1)) := Lib.hid (fun j hj => by
          rcases Nat.lt_or_ge j k with q | q
          · exact HGO.out j q
          · rw [show j = k by omega, HE.out]; exact HX.out)
        go_wp2_with fail
        refine wp_region_N (S := (fun w' => (w'.cell? ⟨ge, oe + k * 7, none⟩ = some (.int .i64 ek) ∧ w'.cell? ⟨ge, oe + k * 7 + 1, none⟩ = some (.int .i64 ec) ∧ w'.cell? ⟨ge, oe + k * 7 + 2, none⟩ = some (.int .i64 ex) ∧ w'.cell? ⟨ge, oe + k * 7 + 3, none⟩ = some (.int .i64 et)) ∧ w'.cell? ⟨ge, oe + k * 7 + 4, none⟩ = some (.int .i64 er) ∧ w'.cell? ⟨ge, oe + k * 7 + 5, none⟩ = some (.int .i64 em) ∧ w'.cell? ⟨ge, oe + k * 7 + 6, none⟩ = some (.int .i64 eq))) (fun i => true) (by kernel_rfl) ?_ (fun hHeld => ?_)
        · (try dsimp only)
          first
            | (refine ⟨⟨?_, ?_, ?_, ?_⟩, ?_, ?_, ?_⟩ <;> with_reducible assumption)
            | (refine ⟨⟨cell_keep ?_ p0, cell_keep ?_ p1, cell_keep ?_ p2, cell_keep ?_ p3⟩, cell_keep ?_ p4, cell_keep ?_ p5, cell_keep ?_ p6⟩ <;> first | exact HBW.out | (go_grown; done))
        refine wpAnyN_take [2, 7, 8] (i := 0) (v := ?_) rfl (by kernel_rfl) (by kernel_rfl) (by kernel_rfl) (by kernel_rfl) (by kernel_rfl) (fun _ _ _ h => h) (Or.inl ⟨by first | kernel_rfl | rfl, ?_⟩) (by assumption) ?_
        rotate_left
        focus
          intro w hSw
          (try dsimp only at hSw)
          go_simp
          try with_reducible rfl
        (try change wpAnyN _ _ _ _ _ _ _ _ (Act.put _ (some 12) _) _)
        try (unfold Act.put; dsimp only)
        refine wpAnyN_take [2, 7, 8] (i := 1) (v := ?_) rfl (by kernel_rfl) (by kernel_rfl) (by kernel_rfl) (by kernel_rfl) (by kernel_rfl) (fun _ _ _ h => h) (Or.inl ⟨by first | kernel_rfl | rfl, ?_⟩) (by assumption) ?_
        rotate_left
        focus
          intro w hSw
          (try dsimp only at hSw)
          go_simp
          try with_reducible rfl
        (try change wpAnyN _ _ _ _ _ _ _ _ (Act.put _ (some 13) _) _)
        try (unfold Act.put; dsimp only)
        refine wpAnyN_take [7, 8] (i := 2) (v := ?_) rfl (by kernel_rfl) (by kernel_rfl) (by kernel_rfl) (by kernel_rfl) (by kernel_rfl) (fun _ _ _ h => h) (Or.inl ⟨by first | kernel_rfl | rfl, ?_⟩) (by assumption) ?_
        rotate_left
        focus
          intro w hSw
          (try dsimp only at hSw)
          go_simp
          try with_reducible rfl
        (try change wpAnyN _ _ _ _ _ _ _ _ (Act.put _ (some 14) _) _)
        try (unfold Act.put; dsimp only)
        refine wpAnyN_take [5, 6, 7, 8] (i := 3) (v := ?_) rfl (by kernel_rfl) (by kernel_rfl) (by kernel_rfl) (by kernel_rfl) (by kernel_rfl) (fun _ _ _ h => h) (Or.inl ⟨by first | kernel_rfl | rfl, ?_⟩) (by assumption) ?_
        rotate_left
        focus
          intro w hSw
          (try dsimp only at hSw)
          go_simp
          try with_reducible rfl
        (try change wpAnyN _ _ _ _ _ _ _ _ (Act.put _ (some 15) _) _)
        try (unfold Act.put; dsimp only)
        refine wpAnyN_take [5, 6, 7, 8] (i := 4) (v := ?_) rfl (by kernel_rfl) (by kernel_rfl) (by kernel_rfl) (by kernel_rfl) (by kernel_rfl) (fun _ _ _ h => h) (Or.inl ⟨by first | kernel_rfl | rfl, ?_⟩) (by assumption) ?_
        rotate_left
        focus
          intro w hSw
          (try dsimp only at hSw)
          go_simp
          try with_reducible rfl
        (try change wpAnyN _ _ _ _ _ _ _ _ (Act.put _ (some 16) _) _)
        try (unfold Act.put; dsimp only)
        refine wpAnyN_take [6, 7, 8] (i := 5) (v := ?_) rfl (by kernel_rfl) (by kernel_rfl) (by kernel_rfl) (by kernel_rfl) (by kernel_rfl) (fun _ _ _ h => h) (Or.inl ⟨by first | kernel_rfl | rfl, ?_⟩) (by assumption) ?_
        rotate_left
        focus
          intro w hSw
          (try dsimp only at hSw)
          go_simp
          try with_reducible rfl
        (try change wpAnyN _ _ _ _ _ _ _ _ (Act.put _ (some 17) _) _)
        try (unfold Act.put; dsimp only)
        refine wpAnyN_take [7, 8] (i := 6) (v := ?_) rfl (by kernel_rfl) (by kernel_rfl) (by kernel_rfl) (by kernel_rfl) (by kernel_rfl) (fun _ _ _ h => h) (Or.inl ⟨by first | kernel_rfl | rfl, ?_⟩) (by assumption) ?_
        rotate_left
        focus
          intro w hSw
          (try dsimp only at hSw)
          go_simp
          try with_reducible rfl
        (try change wpAnyN _ _ _ _ _ _ _ _ (Act.put _ (some 18) _) _)
        try (unfold Act.put; dsimp only)
        refine wpAnyN_ready (rs := [7]) (by kernel_rfl) (by simp) ?_
        refine AllReadyN.cons rfl (fun K hK => ?_) ?_
        · go_simp
          go_at_call 19
          refine (HNX.out _ (show Below wr.heap.size wr _ by first | exact Below.refl _ _ | (go_grown; done))).mono ?_
          rintro e9 w9 ⟨rfl, hb9⟩
          have HBW := Lib.hid (Below.trans (show Below wr.heap.size wr _ by first | exact Below.refl _ _ | (go_grown; done)) (hb9.mono (by first | exact Nat.le_refl _ | (simp; done))))
          clear hb9
          dsimp only
          refine hK.out _ _ ?_ (fun hHeld => ?_)
          · (try dsimp only)
            first
              | (refine ⟨⟨?_, ?_, ?_, ?_⟩, ?_, ?_, ?_⟩ <;> with_reducible assumption)
              | (refine ⟨⟨cell_keep ?_ p0, cell_keep ?_ p1, cell_keep ?_ p2, cell_keep ?_ p3⟩, cell_keep ?_ p4, cell_keep ?_ p5, cell_keep ?_ p6⟩ <;> first | exact HBW.out | (go_grown; done))
          clear hK K
          (try change wpAnyN _ _ _ _ _ _ _ _ (Act.put _ (some 19) _) _)
          try (unfold Act.put; dsimp only)
          refine wpAnyN_take [] (i := 8) (v := ?_) rfl (by kernel_rfl) (by kernel_rfl) (by kernel_rfl) (by kernel_rfl) (by kernel_rfl) (fun _ _ _ h => h) (Or.inl ⟨by first | kernel_rfl | rfl, ?_⟩) (by assumption) ?_
          rotate_left
          focus
            intro w hSw
            (try dsimp only at hSw)
            go_simp
            try with_reducible rfl
          (try change wpAnyN _ _ _ _ _ _ _ _ (Act.put _ (some 5) _) _)
          try (unfold Act.put; dsimp only)
          refine wpAnyN_done (by kernel_rfl) ?_ _
          go_wp2
          go_roundw
          case rel => exact ⟨k + 1, by omega, by go_num, HBR.out.trans (HBW.out.mono HBR.out.size), HG2.out⟩
          case measure => simp [intOf]; omega
        exact AllReadyN.nil
      · have h0b : (x != 0) = true := by simpa using h0
        have HS := Lib.hid (HST.out h0)
        clear h0
        go_wp2_with fail
        refine wp_region_N (S := (fun w' => (w'.cell? ⟨ge, oe + k * 7, none⟩ = some (.int .i64 ek) ∧ w'.cell? ⟨ge, oe + k * 7 + 1, none⟩ = some (.int .i64 ec) ∧ w'.cell? ⟨ge, oe + k * 7 + 2, none⟩ = some (.int .i64 ex) ∧ w'.cell? ⟨ge, oe + k * 7 + 3, none⟩ = some (.int .i64 et)) ∧ w'.cell? ⟨ge, oe + k * 7 + 4, none⟩ = some (.int .i64 er) ∧ w'.cell? ⟨ge, oe + k * 7 + 5, none⟩ = some (.int .i64 em) ∧ w'.cell? ⟨ge, oe + k * 7 + 6, none⟩ = some (.int .i64 eq))) (fun i => true) (by kernel_rfl) ?_ (fun hHeld => ?_)
        · (try dsimp only)
          first
            | (refine ⟨⟨?_, ?_, ?_, ?_⟩, ?_, ?_, ?_⟩ <;> with_reducible assumption)
            | (refine ⟨⟨cell_keep ?_ p0, cell_keep ?_ p1, cell_keep ?_ p2, cell_keep ?_ p3⟩, cell_keep ?_ p4, cell_keep ?_ p5, cell_keep ?_ p6⟩ <;> first | exact HBW.out | (go_grown; done))
        refine wpAnyN_take [2, 7, 8] (i := 0) (v := ?_) rfl (by kernel_rfl) (by kernel_rfl) (by kernel_rfl) (by kernel_rfl) (by kernel_rfl) (fun _ _ _ h => h) (Or.inl ⟨by first | kernel_rfl | rfl, ?_⟩) (by assumption) ?_
        rotate_left
        focus
          intro w hSw
          (try dsimp only at hSw)
          go_simp
          try with_reducible rfl
        (try change wpAnyN _ _ _ _ _ _ _ _ (Act.put _ (some 12) _) _)
        try (unfold Act.put; dsimp only)
        refine wpAnyN_take [2, 7, 8] (i := 1) (v := ?_) rfl (by kernel_rfl) (by kernel_rfl) (by kernel_rfl) (by kernel_rfl) (by kernel_rfl) (fun _ _ _ h => h) (Or.inl ⟨by first | kernel_rfl | rfl, ?_⟩) (by assumption) ?_
        rotate_left
        focus
          intro w hSw
          (try dsimp only at hSw)
          go_simp
          try with_reducible rfl
        (try change wpAnyN _ _ _ _ _ _ _ _ (Act.put _ (some 13) _) _)
        try (unfold Act.put; dsimp only)
        refine wpAnyN_take [7, 8] (i := 2) (v := ?_) rfl (by kernel_rfl) (by kernel_rfl) (by kernel_rfl) (by kernel_rfl) (by kernel_rfl) (fun _ _ _ h => h) (Or.inl ⟨by first | kernel_rfl | rfl, ?_⟩) (by assumption) ?_
        rotate_left
        focus
          intro w hSw
          (try dsimp only at hSw)
          go_simp
          try with_reducible rfl
        (try change wpAnyN _ _ _ _ _ _ _ _ (Act.put _ (some 14) _) _)
        try (unfold Act.put; dsimp only)
        refine wpAnyN_take [5, 6, 7, 8] (i := 3) (v := ?_) rfl (by kernel_rfl) (by kernel_rfl) (by kernel_rfl) (by kernel_rfl) (by kernel_rfl) (fun _ _ _ h => h) (Or.inl ⟨by first | kernel_rfl | rfl, ?_⟩) (by assumption) ?_
        rotate_left
        focus
          intro w hSw
          (try dsimp only at hSw)
          go_simp
          try with_reducible rfl
        (try change wpAnyN _ _ _ _ _ _ _ _ (Act.put _ (some 15) _) _)
        try (unfold Act.put; dsimp only)
        refine wpAnyN_take [5, 6, 7, 8] (i := 4) (v := ?_) rfl (by kernel_rfl) (by kernel_rfl) (by kernel_rfl) (by kernel_rfl) (by kernel_rfl) (fun _ _ _ h => h) (Or.inl ⟨by first | kernel_rfl | rfl, ?_⟩) (by assumption) ?_
        rotate_left
        focus
          intro w hSw
          (try dsimp only at hSw)
          go_simp
          try with_reducible rfl
        (try change wpAnyN _ _ _ _ _ _ _ _ (Act.put _ (some 16) _) _)
        try (unfold Act.put; dsimp only)
        refine wpAnyN_take [6, 7, 8] (i := 5) (v := ?_) rfl (by kernel_rfl) (by kernel_rfl) (by kernel_rfl) (by kernel_rfl) (by kernel_rfl) (fun _ _ _ h => h) (Or.inl ⟨by first | kernel_rfl | rfl, ?_⟩) (by assumption) ?_
        rotate_left
        focus
          intro w hSw
          (try dsimp only at hSw)
          go_simp
          try with_reducible rfl
        (try change wpAnyN _ _ _ _ _ _ _ _ (Act.put _ (some 17) _) _)
        try (unfold Act.put; dsimp only)
        refine wpAnyN_take [7, 8] (i := 6) (v := ?_) rfl (by kernel_rfl) (by kernel_rfl) (by kernel_rfl) (by kernel_rfl) (by kernel_rfl) (fun _ _ _ h => h) (Or.inl ⟨by first | kernel_rfl | rfl, ?_⟩) (by assumption) ?_
        rotate_left
        focus
          intro w hSw
          (try dsimp only at hSw)
          go_simp
          try with_reducible rfl
        (try change wpAnyN _ _ _ _ _ _ _ _ (Act.put _ (some 18) _) _)
        try (unfold Act.put; dsimp only)
        refine wpAnyN_ready (rs := [7]) (by kernel_rfl) (by simp) ?_
        refine AllReadyN.cons rfl (fun K hK => ?_) ?_
        · go_simp
          go_at_call 19
          refine (HNX.out _ (show Below wr.heap.size wr _ by first | exact Below.refl _ _ | (go_grown; done))).mono ?_
          rintro e9 w9 ⟨rfl, hb9⟩
          have HBW := Lib.hid (Below.trans (show Below wr.heap.size wr _ by first | exact Below.refl _ _ | (go_grown; done)) (hb9.mono (by first | exact Nat.le_refl _ | (simp; done))))
          clear hb9
          dsimp only
          refine hK.out _ _ ?_ (fun hHeld => ?_)
          · (try dsimp only)
            first
              | (refine ⟨⟨?_, ?_, ?_, ?_⟩, ?_, ?_, ?_⟩ <;> with_reducible assumption)
              | (refine ⟨⟨cell_keep ?_ p0, cell_keep ?_ p1, cell_keep ?_ p2, cell_keep ?_ p3⟩, cell_keep ?_ p4, cell_keep ?_ p5, cell_keep ?_ p6⟩ <;> first | exact HBW.out | (go_grown; done))
          clear hK K
          (try change wpAnyN _ _ _ _ _ _ _ _ (Act.put _ (some 19) _) _)
          try (unfold Act.put; dsimp only)
          refine wpAnyN_take [] (i := 8) (v := ?_) rfl (by kernel_rfl) (by kernel_rfl) (by kernel_rfl) (by kernel_rfl) (by kernel_rfl) (fun _ _ _ h => h) (Or.inl ⟨by first | kernel_rfl | rfl, ?_⟩) (by assumption) ?_
          rotate_left
          focus
            intro w hSw
            (try dsimp only at hSw)
            go_simp
            try with_reducible rfl
          (try change wpAnyN _ _ _ _ _ _ _ _ (Act.put _ (some 5) _) _)
          try (unfold Act.put; dsimp only)
          refine wpAnyN_done (by kernel_rfl) ?_ _
          go_wp2
          go_ret2
          exact ⟨by rw [HS.out] <;> rfl, HBR.out.trans (HBW.out.mono HBR.out.size)⟩
        exact AllReadyN.nil
    · have hkn : k = n := by omega
      subst hkn
      have hge : ¬ (k : Int) < k := by omega
      have HS := Lib.hid (check_all (l := es) (by rw [HL.out]; exact HGO.out))
      go_wp2
      go_ret2
      exact ⟨by rw [HS.out] <;> rfl, HBR.out⟩

theorem serial_take {l : List Ev} {k : Nat} (h : k < l.length) : serialR (l.take (k + 1)) = serialR (l.take k) ++ (if (l.getD k Ev.none).kind = 6 then [(l.getD k Ev.none).tx] else []) := by rw [take_snoc h, serial_snoc]
theorem serial_len (l : List Ev) : (serialR l).length ≤ l.length := by
  unfold serialR
  rw [List.length_map]
  exact List.length_filter_le _ _
set_option maxRecDepth 100000 in
set_option maxHeartbeats 8000000 in
theorem rserial_any (A : Option Addr) (n cp : Nat) (es : List Ev) (w : World) (hr : RdE w A es) (hl : es.length = n) (hn : n ≤ 1000) :
    Calls Tryd.prog 14 #[.slice A n cp] w fun r w' => (∃ v, r = .returned v ∧ w'.ownsRow w.heap.size 3 1 v (serialR es).length (numV .i64 (serialR es))) ∧ Below w.heap.size w w' := by
  have HR := Lib.hid hr
  have HL := Lib.hid hl
  clear hr hl
  obtain ⟨i0, hi0, hz0, hz1, hz2⟩ := info_parts int_info
  go_enter Tryd.func14, Tryd.ntmps14
  go_wp2
  go_loopw [3, 4] (fun v i wr => ∃ k : Nat, k ≤ n ∧ i = .int .i64 k ∧ Below w.heap.size w wr ∧ wr.ownsRow w.heap.size 3 1 v (serialR (es.take k)).length (numV .i64 (serialR (es.take k)))) (fun _ i _ => n - (intOf i).toNat)
  case atStart => exact ⟨0, Nat.zero_le _, rfl, Below.refl _ _, rfl, .inl ⟨rfl, rfl⟩⟩
  case round =>
    obtain ⟨k, hk, rfl, hbr, hown⟩ := hrel
    have HBR := Lib.hid hbr
    have HOW := Lib.hid hown
    clear hbr hown
    by_cases hlt : k < n
    · have hlt' : (k : Int) < n := by omega
      have HRR := Lib.hid (HR.out.below HBR.out (Nat.le_refl _))
      have hkl : k < es.length := by rw [HL.out]; exact hlt
      obtain ⟨ge, oe, hA, hc⟩ := (HRR.out)
      obtain ⟨rfl, lge⟩ := hA (by rw [HL.out]; omega)
      obtain ⟨p0, p1, p2, p3, p4, p5, p6⟩ := hc k hkl
      have HKL := Lib.hid hkl
      clear hA hc hkl
      obtain ⟨E, hE⟩ : ∃ E, es.getD k Ev.none = E := ⟨_, rfl⟩
      have HE := Lib.hid hE
      rw [hE] at p0 p1 p2 p3 p4 p5 p6
      clear hE
      obtain ⟨ek, ec, ex, et, er, em, eq⟩ := E
      simp only at p0 p1 p2 p3 p4 p5 p6
      have hse := serial_take HKL.out
      rw [HE.out] at hse
      try dsimp only at hse
      have hle := serial_len (es.take k)
      rw [List.length_take] at hle
      obtain ⟨ser, hser⟩ : ∃ l, serialR (es.take k) = l := ⟨_, rfl⟩
      rw [hser] at hse hle HOW
      by_cases h6 : ek = 6
      · subst h6
        rw [if_pos rfl] at hse
        have HSE := Lib.hid hse
        have sz := HBR.out.size
        clear hse hser
        go_wp2_with (at_builtin; refine wpList_append_lies _ rfl _ _ 27 rfl w.heap.size 3 i0 _ 1 8 Tryd.underlying27 hi0 hz0 hz1 hz2 rfl (by decide) _ ser.length (numV .i64 ser) rfl (own_below HOW.out (by go_grown)) _ 1 1 [.int .i64 ex] rfl rfl (World.news_of_block (cs := #[.int .i64 ex]) (t := 3) (fr := (0, 0)) (by (repeat rw [heap_push]); simp)) (by simp [Value.oneCell']) (by decide) (by unfold maxLen; omega) (by omega) (by simp; omega) _ rfl ?_; intro gg cap w7 hown7 hgrow hat hlt7; have HB7 : Hid (Below w.heap.size w w7) := Lib.hid (append_below hgrow (by go_grown) HBR.out (by omega) (fun k hk => (HOW.out.lt k hk).1)); have HO7 := Lib.hid hown7; clear hgrow hown7 hat)
        go_roundw
        case rel => exact ⟨k + 1, by omega, by go_num, HB7.out, by rw [HSE.out, List.length_append]; simpa [numV] using HO7.out⟩
        case measure => simp [intOf]; omega
      · have h6b : (ek == 6) = false := by simpa using h6
        rw [if_neg h6, List.append_nil] at hse
        have HSE := Lib.hid hse
        clear hse hser h6
        go_wp2
        go_roundw
        case rel => exact ⟨k + 1, by omega, by go_num, HBR.out, by rw [HSE.out]; exact HOW.out⟩
        case measure => simp [intOf]; omega
    · have hkn : k = n := by omega
      subst hkn
      have hge : ¬ (k : Int) < k := by omega
      rw [show es.take k = es by rw [← HL.out]; exact List.take_length] at HOW
      go_wp2
      go_ret
      exact ⟨⟨_, rfl, HOW.out⟩, HBR.out⟩

theorem check_ok_eq {es : List Ev} (h : okF start es 0 = true) : checkR es = (-1, 0) := by
  rw [check_eq]; unfold checkF; rw [play_ok h]
theorem check_bad_eq {es : List Ev} {p : Nat} {k : Int} (h : playF start es 0 = .inr (p, k)) : checkR es = ((p : Int), k) := by
  rw [check_eq]; unfold checkF; rw [h]
set_option maxRecDepth 100000 in
set_option maxHeartbeats 4000000 in
theorem checks_true (A : Option Addr) (n cp : Nat) (es : List Ev) (w : World) (hE : ErrT w) (hr : RdE w A es) (hl : es.length = n) (hcp : n ≤ cp) :
    Calls Tryd.prog 3 #[.slice A n cp] w fun e w' => e = .returned (.bool true) ∧ Below w.heap.size w w' := by
  have HE := Lib.hid hE
  have HR := Lib.hid hr
  have HL := Lib.hid hl
  have HCP := Lib.hid hcp
  have HAL := Lib.hid (alive_true w hE)
  clear hE hr hl hcp
  go_enter Tryd.func3, Tryd.ntmps3
  by_cases h60 : n ≤ 60
  · have h60' : ¬ 60 < (n : Int) := by omega
    go_wp2_with fail
    refine HAL.out.mono ?_
    rintro e w1 ⟨rfl, hb1⟩
    have HB1 := Lib.hid hb1
    clear hb1
    have HR1 := Lib.hid (HR.out.below HB1.out (Nat.le_refl _))
    go_wp2_with (at_builtin; refine wpList_append_evs rfl _ _ rfl rfl w1.heap.size (.slice (some ⟨w1.heap.size, 0, none⟩) 0 0) 0 [] rfl (own_empty_ev w1 _ (Nat.le_refl _) _) A n cp es rfl HL.out (HR1.out.below ((Below.refl _ _).alloc (Nat.le_refl _) _ : Below w1.heap.size w1 _) (Nat.le_refl _)) (by simp) (by omega) ?_; intro v6 w6 hown6 hgrow6; rw [Nat.zero_add, List.nil_append] at hown6; obtain ⟨hl7, A7, c7, rfl, _, hr7⟩ := rde_of_own hown6; have HR7 := Lib.hid hr7; have HG6 := Lib.hid (show Below w1.heap.size w1 w6 from ((Below.refl _ _).alloc (Nat.le_refl _) _ : Below w1.heap.size w1 _).grown hgrow6 (by simp) (fun k hk => by simp [Value.ownBlock] at hk; omega)); clear hown6 hgrow6 hr7 hl7)
    have HB6 := Lib.hid (HB1.out.trans (HG6.out.mono HB1.out.size))
    rcases ok_or es with ho | ⟨p, k, ho⟩
    · have HC := Lib.hid (check_good A7 n c7 es w6 HR7.out HL.out (by omega) ho)
      have HO := Lib.hid ho
      have HPO := Lib.hid (play_ok ho)
      clear ho
      refine HC.out.mono ?_
      rintro e w7 ⟨rfl, hb7⟩
      have HB7 := Lib.hid (HB6.out.trans (hb7.mono HB6.out.size))
      clear hb7 HC
      have HS := Lib.hid (serial_good A n cp es w7 (HR.out.below HB7.out (Nat.le_refl _)) HL.out (by omega) HPO.out)
      go_wp2_with fail
      refine HS.out.mono ?_
      rintro e w8 ⟨⟨v, rfl, hown⟩, hb8⟩
      have HB8 := Lib.hid (HB7.out.trans (hb8.mono HB7.out.size))
      have hsl := serial_len es
      have hsq := serial_eq HO.out
      rw [hsq, HL.out] at hsl
      obtain ⟨ser, hser⟩ : ∃ l, (after start es 0).serial = l := ⟨_, rfl⟩
      rw [hser] at hown hsl hsq
      have HSQ := Lib.hid hsq
      obtain ⟨_, A8, c8, rfl, _, _, hrn, _⟩ := rdn_of_own hown
      have HRN := Lib.hid hrn
      clear hb8 hown HS hser hsq hrn
      have HRC := Lib.hid (rcheck_any A n cp es w8 (HR.out.below HB8.out (Nat.le_refl _)) HL.out (by omega) HCP.out)
      rw [check_ok_eq HO.out] at HRC
      go_wp2_with fail
      refine HRC.out.mono ?_
      rintro e w9 ⟨rfl, hb9⟩
      have HB9 := Lib.hid (HB8.out.trans (hb9.mono HB8.out.size))
      have HRN9 := Lib.hid (HRN.out.below hb9)
      clear hb9 HRC
      have HRS := Lib.hid (rserial_any A n cp es w9 (HR.out.below HB9.out (Nat.le_refl _)) HL.out (by omega))
      rw [HSQ.out] at HRS
      try dsimp only
      go_wp2_with fail
      refine HRS.out.mono ?_
      rintro e w10 ⟨⟨v2, rfl, hown2⟩, hb10⟩
      have HB10 := Lib.hid (HB9.out.trans (hb10.mono HB9.out.size))
      obtain ⟨_, A9, c9, rfl, _, _, hrn9, _⟩ := rdn_of_own hown2
      have HIN := Lib.hid (ints_yes A8 A9 ser.length c8 c9 ser w10 (HRN9.out.below hb10) hrn9 rfl (by omega))
      clear hb10 hown2 hrn9
      dsimp only
      go_wp2_with fail
      refine HIN.out.mono ?_
      rintro e w11 ⟨rfl, hb11⟩
      go_wp2
      go_ret
      exact ⟨rfl, HB10.out.trans (hb11.mono HB10.out.size)⟩
    · have HC := Lib.hid (check_bad A7 n c7 es w6 HR7.out HL.out (by omega) ho)
      have HPO := Lib.hid ho
      clear ho
      refine HC.out.mono ?_
      rintro e w7 ⟨⟨b7, rfl, hF7⟩, hb7⟩
      have HB7 := Lib.hid (HB6.out.trans (hb7.mono HB6.out.size))
      have HF7 := Lib.hid hF7
      clear hb7 HC hF7
      have HS := Lib.hid (serial_bad A n cp es w7 (HE.out.below HB7.out) (HR.out.below HB7.out (Nat.le_refl _)) HL.out (by omega) HPO.out)
      go_wp2_with fail
      refine HS.out.mono ?_
      rintro e w8 ⟨⟨b8, rfl, hF8⟩, hb8⟩
      have HB8 := Lib.hid (HB7.out.trans (hb8.mono HB7.out.size))
      have HF78 := Lib.hid (HF7.out.below hb8)
      have HF8 := Lib.hid hF8
      clear hb8 HS hF8
      have HRC := Lib.hid (rcheck_any A n cp es w8 (HR.out.below HB8.out (Nat.le_refl _)) HL.out (by omega) HCP.out)
      rw [check_bad_eq HPO.out] at HRC
      go_wp2_with fail
      refine HRC.out.mono ?_
      rintro e w9 ⟨rfl, hb9⟩
      have HB9 := Lib.hid (HB8.out.trans (hb9.mono HB8.out.size))
      have HFa := Lib.hid (HF78.out.below hb9)
      have HFb := Lib.hid (HF8.out.below hb9)
      clear hb9 HRC
      have kk1 : (k == k) = true := by simp
      have pp1 : ((p : Int) == (p : Int)) = true := by simp
      have kk0 : (k != 0) = true := by have := HFa.out.1; simp; omega
      try dsimp only
      go_wp2_with fail
      refine (code_err _ k p w9 HFa.out.err).mono ?_
      rintro e w' ⟨rfl, rfl⟩
      go_wp2_with fail
      refine (at_err _ k p w9 HFa.out.err (HE.out.below HB9.out)).mono ?_
      rintro e w10 ⟨rfl, hb10⟩
      have HB10 := Lib.hid (HB9.out.trans (hb10.mono HB9.out.size))
      have HFc := Lib.hid (HFb.out.below hb10)
      clear hb10
      go_wp2_with fail
      refine (code_err _ k p w10 HFc.out.err).mono ?_
      rintro e w' ⟨rfl, rfl⟩
      go_wp2_with fail
      refine (at_err _ k p w10 HFc.out.err (HE.out.below HB10.out)).mono ?_
      rintro e w11 ⟨rfl, hb11⟩
      go_wp2
      go_ret
      exact ⟨rfl, HB10.out.trans (hb11.mono HB10.out.size)⟩
  · have h60' : 60 < (n : Int) := by omega
    go_wp2_with fail
    refine HAL.out.mono ?_
    rintro e w1 ⟨rfl, hb1⟩
    go_wp2
    go_ret
    exact ⟨rfl, hb1⟩
end Go.Proofs.YtggkohkngockoaaDoor

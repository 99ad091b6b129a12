/-
  The document's Push onto no list, its Leave. No other conditions.
-/
import Derived.Test.YtpbgdldaojpjkaaRefP
namespace Go.Proofs.Ytpbgdldaojpjkaa
open Go.ChangeShapes Go.WideShapes Go.ChangeAt Go.RowKit
set_option linter.unusedVariables false

set_option maxRecDepth 100000 in
set_option maxHeartbeats 8000000 in
theorem rpush_nil (lim x s m : Int) (u : Bool) (w : World) :
    Calls Try.prog 11 #[.slice none 0 0, .int .i64 lim, .agg #[.int .i64 x, .int .i64 s, .int .i64 m, .bool u]] w fun r w' => DPushOf w w' none 0 0 [] lim ⟨x, s, m, u⟩ r := by
  have hbA : Below w.heap.size w (w.alloc (.cells #[.int .i64 x, .int .i64 s, .int .i64 m, .bool u] 33)) := (Below.refl _ _).alloc (Nat.le_refl _) _
  go_enter Try.func11, Try.ntmps11
  go_wp2_with fail
  refine (rmay_any x s m u _).mono ?_
  rintro e w1 ⟨rfl, hb1⟩
  have hB1 : Below w.heap.size w w1 := hbA.trans (hb1.mono (by simp))
  have hw1 : w.heap.size < w1.heap.size := by have := hb1.size; simp at this; omega
  have b0 := (hb1.cell (p := ⟨w.heap.size, 0, none⟩) (by simp)).trans (by simp : _ = some (.int .i64 x))
  have b1 := (hb1.cell (p := ⟨w.heap.size, 1, none⟩) (by simp)).trans (by simp : _ = some (.int .i64 s))
  have b2 := (hb1.cell (p := ⟨w.heap.size, 2, none⟩) (by simp)).trans (by simp : _ = some (.int .i64 m))
  have b3 := (hb1.cell (p := ⟨w.heap.size, 3, none⟩) (by simp)).trans (by simp : _ = some (.bool u))
  rcases hok : (⟨x, s, m, u⟩ : Wt).ok with _ | _
  · have hE : dPushE [] lim ⟨x, s, m, u⟩ = 1 := by unfold dPushE; rw [if_pos hok]
    go_wp2
    go_returns
    exact ⟨hB1, .inl ⟨by rw [hE]; decide, by rw [hE]; rfl⟩⟩
  · go_wp2_with fail
    refine (rfind_any none 0 0 [] x w1 (rdw_nil _ _) rfl (by omega)).mono ?_
    rintro e w2 ⟨rfl, rfl⟩
    have hfi : findI [] x = -1 := rfl
    rw [hfi]
    by_cases hfull : lim ≤ 0
    · have hE : dPushE [] lim ⟨x, s, m, u⟩ = 7 := by unfold dPushE; rw [if_neg (by rw [hok]; decide), if_neg (by simp), if_pos (by simpa using hfull)]
      go_wp2
      go_returns
      exact ⟨hB1, .inl ⟨by rw [hE]; decide, by rw [hE]; rfl⟩⟩
    · have hE : dPushE [] lim ⟨x, s, m, u⟩ = 0 := by unfold dPushE; rw [if_neg (by rw [hok]; decide), if_neg (by simp), if_neg (by simpa using hfull)]
      have hD : dPush [] lim ⟨x, s, m, u⟩ = [⟨x, s, m, u⟩] := by unfold dPush; rw [if_pos hE]; simp
      have HE := Lib.hid hE
      have HD := Lib.hid hD
      clear hE hD
      have hfull' : ¬ lim ≤ 0 := hfull
      go_wp2
      go_loopw [8] (fun i wr => wr = w1 ∧ i = .int .i64 0) (fun _ _ => 0)
      case atStart => exact ⟨rfl, rfl⟩
      case round =>
        obtain ⟨rfl, rfl⟩ := hrel
        cases u
        · skip
          have hbase : w.heap.size + 1 ≤ wr.heap.size := by omega
          go_wp2
          refine wp_region_N (S := (fun w' => w'.cell? ⟨w.heap.size, 0, none⟩ = some (.int .i64 x) ∧ w'.cell? ⟨w.heap.size, 1, none⟩ = some (.int .i64 s) ∧ w'.cell? ⟨w.heap.size, 2, none⟩ = some (.int .i64 m) ∧ w'.cell? ⟨w.heap.size, 3, none⟩ = some (.bool false))) (fun i => !(i == 11 || i == 12 || i == 13)) (by kernel_rfl) ?_ (fun hHeld => ?_)
          · (try dsimp only)
            first
              | (refine ⟨?_, ?_, ?_, ?_⟩ <;> assumption)
              | (refine ⟨cell_keep ?_ b0, cell_keep ?_ b1, cell_keep ?_ b2, cell_keep ?_ b3⟩ <;> (go_grown; done))
              | (refine ⟨cell_keep ?_ z0, cell_keep ?_ z1, cell_keep ?_ z2, cell_keep ?_ z3⟩ <;> (go_grown; done))
          refine wpAnyN_take [3, 4, 7, 11, 12, 13] (i := 1) (v := ?_) rfl (by kernel_rfl) (by kernel_rfl) (by kernel_rfl) (by kernel_rfl) (by kernel_rfl) (fun _ _ _ h => h) (Or.inl ⟨by rfl, ?_⟩) (by assumption) ?_
          rotate_left
          focus
            intro w hSw
            (try dsimp only at hSw)
            go_simp
            try with_reducible rfl
          try (unfold Act.put; dsimp only)
          refine wpAnyN_take [3, 4, 7, 11, 12, 13] (i := 2) (v := ?_) rfl (by kernel_rfl) (by kernel_rfl) (by kernel_rfl) (by kernel_rfl) (by kernel_rfl) (fun _ _ _ h => h) (Or.inl ⟨by rfl, ?_⟩) (by assumption) ?_
          rotate_left
          focus
            intro w hSw
            (try dsimp only at hSw)
            go_simp
            try with_reducible rfl
          try (unfold Act.put; dsimp only)
          refine wpAnyN_take [4, 7, 11, 12, 13] (i := 3) (v := ?_) rfl (by kernel_rfl) (by kernel_rfl) (by kernel_rfl) (by kernel_rfl) (by kernel_rfl) (fun _ _ _ h => h) (Or.inl ⟨by rfl, ?_⟩) (by assumption) ?_
          rotate_left
          focus
            intro w hSw
            (try dsimp only at hSw)
            go_simp
            try with_reducible rfl
          try (unfold Act.put; dsimp only)
          refine wpAnyN_take [6, 7, 11, 12, 13] (i := 5) (v := ?_) rfl (by kernel_rfl) (by kernel_rfl) (by kernel_rfl) (by kernel_rfl) (by kernel_rfl) (fun _ _ _ h => h) (Or.inl ⟨by rfl, ?_⟩) (by assumption) ?_
          rotate_left
          focus
            intro w hSw
            (try dsimp only at hSw)
            go_simp
            try with_reducible rfl
          try (unfold Act.put; dsimp only)
          refine wpAnyN_take [10, 11, 12, 13] (i := 8) (v := ?_) rfl (by kernel_rfl) (by kernel_rfl) (by kernel_rfl) (by kernel_rfl) (by kernel_rfl) (fun _ _ _ h => h) (Or.inl ⟨by rfl, ?_⟩) (by assumption) ?_
          rotate_left
          focus
            intro w hSw
            (try dsimp only at hSw)
            go_simp
            try with_reducible rfl
          try (unfold Act.put; dsimp only)
          refine wpAnyN_take [10, 11, 12, 13] (i := 9) (v := ?_) rfl (by kernel_rfl) (by kernel_rfl) (by kernel_rfl) (by kernel_rfl) (by kernel_rfl) (fun _ _ _ h => h) (Or.inl ⟨by rfl, ?_⟩) (by assumption) ?_
          rotate_left
          focus
            intro w hSw
            (try dsimp only at hSw)
            go_simp
            try with_reducible rfl
          try (unfold Act.put; dsimp only)
          refine wpAnyN_take [11, 12, 13] (i := 10) (v := ?_) rfl (by kernel_rfl) (by kernel_rfl) (by kernel_rfl) (by kernel_rfl) (by kernel_rfl) (fun _ _ _ h => h) (Or.inl ⟨by rfl, ?_⟩) (by assumption) ?_
          rotate_left
          focus
            intro w hSw
            (try dsimp only at hSw)
            go_simp
            try with_reducible rfl
          try (unfold Act.put; dsimp only)
          refine wpAnyN_ready (rs := [0, 6]) (by kernel_rfl) (by simp) ?_
          refine AllReadyN.cons rfl (fun K hK => ?_) ?_
          · go_simp
            refine hK.out _ _ ?_ (fun hHeld => ?_)
            · (try dsimp only)
              first
                | (refine ⟨?_, ?_, ?_, ?_⟩ <;> assumption)
                | (refine ⟨cell_keep ?_ b0, cell_keep ?_ b1, cell_keep ?_ b2, cell_keep ?_ b3⟩ <;> (go_grown; done))
                | (refine ⟨cell_keep ?_ z0, cell_keep ?_ z1, cell_keep ?_ z2, cell_keep ?_ z3⟩ <;> (go_grown; done))
            clear hK K
            try (unfold Act.put; dsimp only)
            refine wpAnyN_ready (rs := [4, 6]) (by kernel_rfl) (by simp) ?_
            refine AllReadyN.cons rfl (fun K hK => ?_) ?_
            · refine step_append_waits (by rfl) (by rfl) _ _ (by rfl) wr.heap.size _ 0 [] (by rfl) (own_blk (by first | omega | (simp; done) | (simp; omega)) (by (repeat (first | rw [heap_drew] | rw [heap_push])); simp)) none 0 0 [] rfl (by rfl) (rdw_nil _ _) (fun _ => rfl) (by first | omega | (simp; done) | (simp; omega)) (by omega) ?_
              intro v7 w7 hown7 hg7
              have hb7 : Below wr.heap.size wr w7 := Below.grown (show Below wr.heap.size wr _ by go_grown) hg7 (by first | omega | (simp; done) | (simp; omega)) (fun q hq => by simp [Value.ownBlock] at hq; omega)
              have hk7 := hg7.block
              have z0 := append_cell hg7 (by go_grown) b0 (by first | (simp [Value.ownBlock]; done) | (simp [Value.ownBlock]; omega))
              have z1 := append_cell hg7 (by go_grown) b1 (by first | (simp [Value.ownBlock]; done) | (simp [Value.ownBlock]; omega))
              have z2 := append_cell hg7 (by go_grown) b2 (by first | (simp [Value.ownBlock]; done) | (simp [Value.ownBlock]; omega))
              have z3 := append_cell hg7 (by go_grown) b3 (by first | (simp [Value.ownBlock]; done) | (simp [Value.ownBlock]; omega))
              have hz7 := hb7.size
              have HO7 := Lib.hid hown7
              have HB7 := Lib.hid hb7
              have HK7 := Lib.hid hk7
              clear hown7 hb7 hg7 hk7
              refine hK.out _ _ ?_ (fun hHeld => ?_)
              · (try dsimp only)
                first
                  | (refine ⟨?_, ?_, ?_, ?_⟩ <;> assumption)
                  | (refine ⟨cell_keep ?_ b0, cell_keep ?_ b1, cell_keep ?_ b2, cell_keep ?_ b3⟩ <;> (go_grown; done))
                  | (refine ⟨cell_keep ?_ z0, cell_keep ?_ z1, cell_keep ?_ z2, cell_keep ?_ z3⟩ <;> (go_grown; done))
              clear hK K
              try (unfold Act.put; dsimp only)
              refine wpAnyN_ready (rs := [6]) (by kernel_rfl) (by simp) ?_
              refine AllReadyN.cons rfl (fun K hK => ?_) ?_
              · go_simp
                refine hK.out _ _ ?_ (fun hHeld => ?_)
                · (try dsimp only)
                  first
                    | (refine ⟨?_, ?_, ?_, ?_⟩ <;> assumption)
                    | (refine ⟨cell_keep ?_ b0, cell_keep ?_ b1, cell_keep ?_ b2, cell_keep ?_ b3⟩ <;> (go_grown; done))
                    | (refine ⟨cell_keep ?_ z0, cell_keep ?_ z1, cell_keep ?_ z2, cell_keep ?_ z3⟩ <;> (go_grown; done))
                clear hK K
                try (unfold Act.put; dsimp only)
                refine wpAnyN_ready (rs := [7]) (by kernel_rfl) (by simp) ?_
                refine AllReadyN.cons rfl (fun K hK => ?_) ?_
                · refine step_append_waits (by rfl) (by rfl) _ _ (by rfl) wr.heap.size _ _ _ (by rfl) (own_below HO7.out (by go_grown)) _ 1 1 [⟨x, s, m, false⟩] rfl (by rfl) (rdw_blk (T := 33) (by first | ((repeat (first | rw [heap_drew] | rw [heap_push])); simp; done) | (rw [HK7.out _ (by first | omega | (simp; done) | (simp; omega)) (by simp [Value.ownBlock])]; (repeat (first | rw [heap_drew] | rw [heap_push])); simp; done))) (by intro h; cases h) (by first | omega | (simp; done) | (simp; omega)) (by omega) ?_
                  intro v8 w8 hown8 hg8
                  have hv7 : ∀ q, v7.ownBlock = some q → wr.heap.size ≤ q := fun q hq => (HO7.out.lt q hq).1
                  have hb8 : Below wr.heap.size wr w8 := Below.grown (HB7.out.trans (Below.mono (show Below w7.heap.size w7 _ by go_grown) (by omega))) hg8 (by first | omega | (simp; done) | (simp; omega)) hv7
                  have z0 := append_cell hg8 (by go_grown) z0 (fun e => by have := hv7 _ e; omega)
                  have z1 := append_cell hg8 (by go_grown) z1 (fun e => by have := hv7 _ e; omega)
                  have z2 := append_cell hg8 (by go_grown) z2 (fun e => by have := hv7 _ e; omega)
                  have z3 := append_cell hg8 (by go_grown) z3 (fun e => by have := hv7 _ e; omega)
                  have hz8 := hb8.size
                  have HO8 := Lib.hid hown8
                  have HB8 := Lib.hid hb8
                  clear hown8 hb8 hg8 hv7
                  refine hK.out _ _ ?_ (fun hHeld => ?_)
                  · (try dsimp only)
                    first
                      | (refine ⟨?_, ?_, ?_, ?_⟩ <;> assumption)
                      | (refine ⟨cell_keep ?_ b0, cell_keep ?_ b1, cell_keep ?_ b2, cell_keep ?_ b3⟩ <;> (go_grown; done))
                      | (refine ⟨cell_keep ?_ z0, cell_keep ?_ z1, cell_keep ?_ z2, cell_keep ?_ z3⟩ <;> (go_grown; done))
                  clear hK K
                  try (unfold Act.put; dsimp only)
                  refine wpAnyN_ready (rs := [11]) (by kernel_rfl) (by simp) ?_
                  refine AllReadyN.last rfl rfl (fun K hK => ?_) ?_
                  · refine step_append_waits (by rfl) (by rfl) _ _ (by rfl) wr.heap.size _ _ _ (by rfl) (own_below HO8.out (by go_grown)) none 0 0 [] rfl (by rfl) (rdw_nil _ _) (fun _ => rfl) (by first | omega | (simp; done) | (simp; omega)) (by omega) ?_
                    intro v9 w9 hown9 hg9
                    refine hK.out _ _ ?_
                    clear hK K
                    try (unfold Act.put; dsimp only)
                    refine wpAnyN_ready (rs := [12]) (by kernel_rfl) (by simp) ?_
                    refine AllReadyN.last rfl rfl (fun K hK => ?_) ?_
                    · go_simp
                      refine hK.out _ _ ?_
                      clear hK K
                      try (unfold Act.put; dsimp only)
                      refine wpAnyN_ready (rs := [13]) (by kernel_rfl) (by simp) ?_
                      refine AllReadyN.last rfl rfl (fun K hK => ?_) ?_
                      · go_simp
                        refine hK.out _ _ ?_
                        clear hK K
                        try (unfold Act.put; dsimp only)
                        refine wpAnyN_done (by kernel_rfl) ?_ _
                        go_wp2
                        go_returns
                        have hb9 : Below w.heap.size w w9 := Below.grown (hB1.trans ((HB8.out.trans (Below.mono (show Below w8.heap.size w8 _ by go_grown) hz8)).mono hB1.size)) hg9 (by first | omega | (simp; done) | (simp; omega)) (fun q hq => by have := (HO8.out.lt q hq).1; omega)
                        refine ⟨hb9, .inr ⟨HE.out, v9, rfl, ?_⟩⟩
                        rw [HD.out]
                        exact own_weaken (by simpa [flatW_one, show flatW [] = [] from rfl] using hown9) (by omega)
                      exact AllReadyN.nil
                    exact AllReadyN.nil
                  exact AllReadyN.nil
                exact AllReadyN.nil
              exact AllReadyN.nil
            refine AllReadyN.cons rfl (fun K hK => ?_) ?_
            · go_simp
              refine hK.out _ _ ?_ (fun hHeld => ?_)
              · (try dsimp only)
                first
                  | (refine ⟨?_, ?_, ?_, ?_⟩ <;> assumption)
                  | (refine ⟨cell_keep ?_ b0, cell_keep ?_ b1, cell_keep ?_ b2, cell_keep ?_ b3⟩ <;> (go_grown; done))
                  | (refine ⟨cell_keep ?_ z0, cell_keep ?_ z1, cell_keep ?_ z2, cell_keep ?_ z3⟩ <;> (go_grown; done))
              clear hK K
              try (unfold Act.put; dsimp only)
              refine wpAnyN_ready (rs := [4]) (by kernel_rfl) (by simp) ?_
              refine AllReadyN.cons rfl (fun K hK => ?_) ?_
              · refine step_append_waits (by rfl) (by rfl) _ _ (by rfl) wr.heap.size _ 0 [] (by rfl) (own_blk (by first | omega | (simp; done) | (simp; omega)) (by (repeat (first | rw [heap_drew] | rw [heap_push])); simp)) none 0 0 [] rfl (by rfl) (rdw_nil _ _) (fun _ => rfl) (by first | omega | (simp; done) | (simp; omega)) (by omega) ?_
                intro v7 w7 hown7 hg7
                have hb7 : Below wr.heap.size wr w7 := Below.grown (show Below wr.heap.size wr _ by go_grown) hg7 (by first | omega | (simp; done) | (simp; omega)) (fun q hq => by simp [Value.ownBlock] at hq; omega)
                have hk7 := hg7.block
                have z0 := append_cell hg7 (by go_grown) b0 (by first | (simp [Value.ownBlock]; done) | (simp [Value.ownBlock]; omega))
                have z1 := append_cell hg7 (by go_grown) b1 (by first | (simp [Value.ownBlock]; done) | (simp [Value.ownBlock]; omega))
                have z2 := append_cell hg7 (by go_grown) b2 (by first | (simp [Value.ownBlock]; done) | (simp [Value.ownBlock]; omega))
                have z3 := append_cell hg7 (by go_grown) b3 (by first | (simp [Value.ownBlock]; done) | (simp [Value.ownBlock]; omega))
                have hz7 := hb7.size
                have HO7 := Lib.hid hown7
                have HB7 := Lib.hid hb7
                have HK7 := Lib.hid hk7
                clear hown7 hb7 hg7 hk7
                refine hK.out _ _ ?_ (fun hHeld => ?_)
                · (try dsimp only)
                  first
                    | (refine ⟨?_, ?_, ?_, ?_⟩ <;> assumption)
                    | (refine ⟨cell_keep ?_ b0, cell_keep ?_ b1, cell_keep ?_ b2, cell_keep ?_ b3⟩ <;> (go_grown; done))
                    | (refine ⟨cell_keep ?_ z0, cell_keep ?_ z1, cell_keep ?_ z2, cell_keep ?_ z3⟩ <;> (go_grown; done))
                clear hK K
                try (unfold Act.put; dsimp only)
                refine wpAnyN_ready (rs := [7]) (by kernel_rfl) (by simp) ?_
                refine AllReadyN.cons rfl (fun K hK => ?_) ?_
                · refine step_append_waits (by rfl) (by rfl) _ _ (by rfl) wr.heap.size _ _ _ (by rfl) (own_below HO7.out (by go_grown)) _ 1 1 [⟨x, s, m, false⟩] rfl (by rfl) (rdw_blk (T := 33) (by first | ((repeat (first | rw [heap_drew] | rw [heap_push])); simp; done) | (rw [HK7.out _ (by first | omega | (simp; done) | (simp; omega)) (by simp [Value.ownBlock])]; (repeat (first | rw [heap_drew] | rw [heap_push])); simp; done))) (by intro h; cases h) (by first | omega | (simp; done) | (simp; omega)) (by omega) ?_
                  intro v8 w8 hown8 hg8
                  have hv7 : ∀ q, v7.ownBlock = some q → wr.heap.size ≤ q := fun q hq => (HO7.out.lt q hq).1
                  have hb8 : Below wr.heap.size wr w8 := Below.grown (HB7.out.trans (Below.mono (show Below w7.heap.size w7 _ by go_grown) (by omega))) hg8 (by first | omega | (simp; done) | (simp; omega)) hv7
                  have z0 := append_cell hg8 (by go_grown) z0 (fun e => by have := hv7 _ e; omega)
                  have z1 := append_cell hg8 (by go_grown) z1 (fun e => by have := hv7 _ e; omega)
                  have z2 := append_cell hg8 (by go_grown) z2 (fun e => by have := hv7 _ e; omega)
                  have z3 := append_cell hg8 (by go_grown) z3 (fun e => by have := hv7 _ e; omega)
                  have hz8 := hb8.size
                  have HO8 := Lib.hid hown8
                  have HB8 := Lib.hid hb8
                  clear hown8 hb8 hg8 hv7
                  refine hK.out _ _ ?_ (fun hHeld => ?_)
                  · (try dsimp only)
                    first
                      | (refine ⟨?_, ?_, ?_, ?_⟩ <;> assumption)
                      | (refine ⟨cell_keep ?_ b0, cell_keep ?_ b1, cell_keep ?_ b2, cell_keep ?_ b3⟩ <;> (go_grown; done))
                      | (refine ⟨cell_keep ?_ z0, cell_keep ?_ z1, cell_keep ?_ z2, cell_keep ?_ z3⟩ <;> (go_grown; done))
                  clear hK K
                  try (unfold Act.put; dsimp only)
                  refine wpAnyN_ready (rs := [11]) (by kernel_rfl) (by simp) ?_
                  refine AllReadyN.last rfl rfl (fun K hK => ?_) ?_
                  · refine step_append_waits (by rfl) (by rfl) _ _ (by rfl) wr.heap.size _ _ _ (by rfl) (own_below HO8.out (by go_grown)) none 0 0 [] rfl (by rfl) (rdw_nil _ _) (fun _ => rfl) (by first | omega | (simp; done) | (simp; omega)) (by omega) ?_
                    intro v9 w9 hown9 hg9
                    refine hK.out _ _ ?_
                    clear hK K
                    try (unfold Act.put; dsimp only)
                    refine wpAnyN_ready (rs := [12]) (by kernel_rfl) (by simp) ?_
                    refine AllReadyN.last rfl rfl (fun K hK => ?_) ?_
                    · go_simp
                      refine hK.out _ _ ?_
                      clear hK K
                      try (unfold Act.put; dsimp only)
                      refine wpAnyN_ready (rs := [13]) (by kernel_rfl) (by simp) ?_
                      refine AllReadyN.last rfl rfl (fun K hK => ?_) ?_
                      · go_simp
                        refine hK.out _ _ ?_
                        clear hK K
                        try (unfold Act.put; dsimp only)
                        refine wpAnyN_done (by kernel_rfl) ?_ _
                        go_wp2
                        go_returns
                        have hb9 : Below w.heap.size w w9 := Below.grown (hB1.trans ((HB8.out.trans (Below.mono (show Below w8.heap.size w8 _ by go_grown) hz8)).mono hB1.size)) hg9 (by first | omega | (simp; done) | (simp; omega)) (fun q hq => by have := (HO8.out.lt q hq).1; omega)
                        refine ⟨hb9, .inr ⟨HE.out, v9, rfl, ?_⟩⟩
                        rw [HD.out]
                        exact own_weaken (by simpa [flatW_one, show flatW [] = [] from rfl] using hown9) (by omega)
                      exact AllReadyN.nil
                    exact AllReadyN.nil
                  exact AllReadyN.nil
                exact AllReadyN.nil
              exact AllReadyN.nil
            exact AllReadyN.nil
          refine AllReadyN.cons rfl (fun K hK => ?_) ?_
          · go_simp
            refine hK.out _ _ ?_ (fun hHeld => ?_)
            · (try dsimp only)
              first
                | (refine ⟨?_, ?_, ?_, ?_⟩ <;> assumption)
                | (refine ⟨cell_keep ?_ b0, cell_keep ?_ b1, cell_keep ?_ b2, cell_keep ?_ b3⟩ <;> (go_grown; done))
                | (refine ⟨cell_keep ?_ z0, cell_keep ?_ z1, cell_keep ?_ z2, cell_keep ?_ z3⟩ <;> (go_grown; done))
            clear hK K
            try (unfold Act.put; dsimp only)
            refine wpAnyN_ready (rs := [0]) (by kernel_rfl) (by simp) ?_
            refine AllReadyN.cons rfl (fun K hK => ?_) ?_
            · go_simp
              refine hK.out _ _ ?_ (fun hHeld => ?_)
              · (try dsimp only)
                first
                  | (refine ⟨?_, ?_, ?_, ?_⟩ <;> assumption)
                  | (refine ⟨cell_keep ?_ b0, cell_keep ?_ b1, cell_keep ?_ b2, cell_keep ?_ b3⟩ <;> (go_grown; done))
                  | (refine ⟨cell_keep ?_ z0, cell_keep ?_ z1, cell_keep ?_ z2, cell_keep ?_ z3⟩ <;> (go_grown; done))
              clear hK K
              try (unfold Act.put; dsimp only)
              refine wpAnyN_ready (rs := [4]) (by kernel_rfl) (by simp) ?_
              refine AllReadyN.cons rfl (fun K hK => ?_) ?_
              · refine step_append_waits (by rfl) (by rfl) _ _ (by rfl) wr.heap.size _ 0 [] (by rfl) (own_blk (by first | omega | (simp; done) | (simp; omega)) (by (repeat (first | rw [heap_drew] | rw [heap_push])); simp)) none 0 0 [] rfl (by rfl) (rdw_nil _ _) (fun _ => rfl) (by first | omega | (simp; done) | (simp; omega)) (by omega) ?_
                intro v7 w7 hown7 hg7
                have hb7 : Below wr.heap.size wr w7 := Below.grown (show Below wr.heap.size wr _ by go_grown) hg7 (by first | omega | (simp; done) | (simp; omega)) (fun q hq => by simp [Value.ownBlock] at hq; omega)
                have hk7 := hg7.block
                have z0 := append_cell hg7 (by go_grown) b0 (by first | (simp [Value.ownBlock]; done) | (simp [Value.ownBlock]; omega))
                have z1 := append_cell hg7 (by go_grown) b1 (by first | (simp [Value.ownBlock]; done) | (simp [Value.ownBlock]; omega))
                have z2 := append_cell hg7 (by go_grown) b2 (by first | (simp [Value.ownBlock]; done) | (simp [Value.ownBlock]; omega))
                have z3 := append_cell hg7 (by go_grown) b3 (by first | (simp [Value.ownBlock]; done) | (simp [Value.ownBlock]; omega))
                have hz7 := hb7.size
                have HO7 := Lib.hid hown7
                have HB7 := Lib.hid hb7
                have HK7 := Lib.hid hk7
                clear hown7 hb7 hg7 hk7
                refine hK.out _ _ ?_ (fun hHeld => ?_)
                · (try dsimp only)
                  first
                    | (refine ⟨?_, ?_, ?_, ?_⟩ <;> assumption)
                    | (refine ⟨cell_keep ?_ b0, cell_keep ?_ b1, cell_keep ?_ b2, cell_keep ?_ b3⟩ <;> (go_grown; done))
                    | (refine ⟨cell_keep ?_ z0, cell_keep ?_ z1, cell_keep ?_ z2, cell_keep ?_ z3⟩ <;> (go_grown; done))
                clear hK K
                try (unfold Act.put; dsimp only)
                refine wpAnyN_ready (rs := [7]) (by kernel_rfl) (by simp) ?_
                refine AllReadyN.cons rfl (fun K hK => ?_) ?_
                · refine step_append_waits (by rfl) (by rfl) _ _ (by rfl) wr.heap.size _ _ _ (by rfl) (own_below HO7.out (by go_grown)) _ 1 1 [⟨x, s, m, false⟩] rfl (by rfl) (rdw_blk (T := 33) (by first | ((repeat (first | rw [heap_drew] | rw [heap_push])); simp; done) | (rw [HK7.out _ (by first | omega | (simp; done) | (simp; omega)) (by simp [Value.ownBlock])]; (repeat (first | rw [heap_drew] | rw [heap_push])); simp; done))) (by intro h; cases h) (by first | omega | (simp; done) | (simp; omega)) (by omega) ?_
                  intro v8 w8 hown8 hg8
                  have hv7 : ∀ q, v7.ownBlock = some q → wr.heap.size ≤ q := fun q hq => (HO7.out.lt q hq).1
                  have hb8 : Below wr.heap.size wr w8 := Below.grown (HB7.out.trans (Below.mono (show Below w7.heap.size w7 _ by go_grown) (by omega))) hg8 (by first | omega | (simp; done) | (simp; omega)) hv7
                  have z0 := append_cell hg8 (by go_grown) z0 (fun e => by have := hv7 _ e; omega)
                  have z1 := append_cell hg8 (by go_grown) z1 (fun e => by have := hv7 _ e; omega)
                  have z2 := append_cell hg8 (by go_grown) z2 (fun e => by have := hv7 _ e; omega)
                  have z3 := append_cell hg8 (by go_grown) z3 (fun e => by have := hv7 _ e; omega)
                  have hz8 := hb8.size
                  have HO8 := Lib.hid hown8
                  have HB8 := Lib.hid hb8
                  clear hown8 hb8 hg8 hv7
                  refine hK.out _ _ ?_ (fun hHeld => ?_)
                  · (try dsimp only)
                    first
                      | (refine ⟨?_, ?_, ?_, ?_⟩ <;> assumption)
                      | (refine ⟨cell_keep ?_ b0, cell_keep ?_ b1, cell_keep ?_ b2, cell_keep ?_ b3⟩ <;> (go_grown; done))
                      | (refine ⟨cell_keep ?_ z0, cell_keep ?_ z1, cell_keep ?_ z2, cell_keep ?_ z3⟩ <;> (go_grown; done))
                  clear hK K
                  try (unfold Act.put; dsimp only)
                  refine wpAnyN_ready (rs := [11]) (by kernel_rfl) (by simp) ?_
                  refine AllReadyN.last rfl rfl (fun K hK => ?_) ?_
                  · refine step_append_waits (by rfl) (by rfl) _ _ (by rfl) wr.heap.size _ _ _ (by rfl) (own_below HO8.out (by go_grown)) none 0 0 [] rfl (by rfl) (rdw_nil _ _) (fun _ => rfl) (by first | omega | (simp; done) | (simp; omega)) (by omega) ?_
                    intro v9 w9 hown9 hg9
                    refine hK.out _ _ ?_
                    clear hK K
                    try (unfold Act.put; dsimp only)
                    refine wpAnyN_ready (rs := [12]) (by kernel_rfl) (by simp) ?_
                    refine AllReadyN.last rfl rfl (fun K hK => ?_) ?_
                    · go_simp
                      refine hK.out _ _ ?_
                      clear hK K
                      try (unfold Act.put; dsimp only)
                      refine wpAnyN_ready (rs := [13]) (by kernel_rfl) (by simp) ?_
                      refine AllReadyN.last rfl rfl (fun K hK => ?_) ?_
                      · go_simp
                        refine hK.out _ _ ?_
                        clear hK K
                        try (unfold Act.put; dsimp only)
                        refine wpAnyN_done (by kernel_rfl) ?_ _
                        go_wp2
                        go_returns
                        have hb9 : Below w.heap.size w w9 := Below.grown (hB1.trans ((HB8.out.trans (Below.mono (show Below w8.heap.size w8 _ by go_grown) hz8)).mono hB1.size)) hg9 (by first | omega | (simp; done) | (simp; omega)) (fun q hq => by have := (HO8.out.lt q hq).1; omega)
                        refine ⟨hb9, .inr ⟨HE.out, v9, rfl, ?_⟩⟩
                        rw [HD.out]
                        exact own_weaken (by simpa [flatW_one, show flatW [] = [] from rfl] using hown9) (by omega)
                      exact AllReadyN.nil
                    exact AllReadyN.nil
                  exact AllReadyN.nil
                exact AllReadyN.nil
              exact AllReadyN.nil
            exact AllReadyN.nil
          exact AllReadyN.nil
        · skip
          have hbase : w.heap.size + 1 ≤ wr.heap.size := by omega
          go_wp2
          refine wp_region_N (S := (fun w' => w'.cell? ⟨w.heap.size, 0, none⟩ = some (.int .i64 x) ∧ w'.cell? ⟨w.heap.size, 1, none⟩ = some (.int .i64 s) ∧ w'.cell? ⟨w.heap.size, 2, none⟩ = some (.int .i64 m) ∧ w'.cell? ⟨w.heap.size, 3, none⟩ = some (.bool true))) (fun i => !(i == 11 || i == 12 || i == 13)) (by kernel_rfl) ?_ (fun hHeld => ?_)
          · (try dsimp only)
            first
              | (refine ⟨?_, ?_, ?_, ?_⟩ <;> assumption)
              | (refine ⟨cell_keep ?_ b0, cell_keep ?_ b1, cell_keep ?_ b2, cell_keep ?_ b3⟩ <;> (go_grown; done))
              | (refine ⟨cell_keep ?_ z0, cell_keep ?_ z1, cell_keep ?_ z2, cell_keep ?_ z3⟩ <;> (go_grown; done))
          refine wpAnyN_take [3, 4, 7, 11, 12, 13] (i := 1) (v := ?_) rfl (by kernel_rfl) (by kernel_rfl) (by kernel_rfl) (by kernel_rfl) (by kernel_rfl) (fun _ _ _ h => h) (Or.inl ⟨by rfl, ?_⟩) (by assumption) ?_
          rotate_left
          focus
            intro w hSw
            (try dsimp only at hSw)
            go_simp
            try with_reducible rfl
          try (unfold Act.put; dsimp only)
          refine wpAnyN_take [3, 4, 7, 11, 12, 13] (i := 2) (v := ?_) rfl (by kernel_rfl) (by kernel_rfl) (by kernel_rfl) (by kernel_rfl) (by kernel_rfl) (fun _ _ _ h => h) (Or.inl ⟨by rfl, ?_⟩) (by assumption) ?_
          rotate_left
          focus
            intro w hSw
            (try dsimp only at hSw)
            go_simp
            try with_reducible rfl
          try (unfold Act.put; dsimp only)
          refine wpAnyN_take [4, 7, 11, 12, 13] (i := 3) (v := ?_) rfl (by kernel_rfl) (by kernel_rfl) (by kernel_rfl) (by kernel_rfl) (by kernel_rfl) (fun _ _ _ h => h) (Or.inl ⟨by rfl, ?_⟩) (by assumption) ?_
          rotate_left
          focus
            intro w hSw
            (try dsimp only at hSw)
            go_simp
            try with_reducible rfl
          try (unfold Act.put; dsimp only)
          refine wpAnyN_take [6, 7, 11, 12, 13] (i := 5) (v := ?_) rfl (by kernel_rfl) (by kernel_rfl) (by kernel_rfl) (by kernel_rfl) (by kernel_rfl) (fun _ _ _ h => h) (Or.inl ⟨by rfl, ?_⟩) (by assumption) ?_
          rotate_left
          focus
            intro w hSw
            (try dsimp only at hSw)
            go_simp
            try with_reducible rfl
          try (unfold Act.put; dsimp only)
          refine wpAnyN_take [10, 11, 12, 13] (i := 8) (v := ?_) rfl (by kernel_rfl) (by kernel_rfl) (by kernel_rfl) (by kernel_rfl) (by kernel_rfl) (fun _ _ _ h => h) (Or.inl ⟨by rfl, ?_⟩) (by assumption) ?_
          rotate_left
          focus
            intro w hSw
            (try dsimp only at hSw)
            go_simp
            try with_reducible rfl
          try (unfold Act.put; dsimp only)
          refine wpAnyN_take [10, 11, 12, 13] (i := 9) (v := ?_) rfl (by kernel_rfl) (by kernel_rfl) (by kernel_rfl) (by kernel_rfl) (by kernel_rfl) (fun _ _ _ h => h) (Or.inl ⟨by rfl, ?_⟩) (by assumption) ?_
          rotate_left
          focus
            intro w hSw
            (try dsimp only at hSw)
            go_simp
            try with_reducible rfl
          try (unfold Act.put; dsimp only)
          refine wpAnyN_take [11, 12, 13] (i := 10) (v := ?_) rfl (by kernel_rfl) (by kernel_rfl) (by kernel_rfl) (by kernel_rfl) (by kernel_rfl) (fun _ _ _ h => h) (Or.inl ⟨by rfl, ?_⟩) (by assumption) ?_
          rotate_left
          focus
            intro w hSw
            (try dsimp only at hSw)
            go_simp
            try with_reducible rfl
          try (unfold Act.put; dsimp only)
          refine wpAnyN_ready (rs := [0, 6]) (by kernel_rfl) (by simp) ?_
          refine AllReadyN.cons rfl (fun K hK => ?_) ?_
          · go_simp
            refine hK.out _ _ ?_ (fun hHeld => ?_)
            · (try dsimp only)
              first
                | (refine ⟨?_, ?_, ?_, ?_⟩ <;> assumption)
                | (refine ⟨cell_keep ?_ b0, cell_keep ?_ b1, cell_keep ?_ b2, cell_keep ?_ b3⟩ <;> (go_grown; done))
                | (refine ⟨cell_keep ?_ z0, cell_keep ?_ z1, cell_keep ?_ z2, cell_keep ?_ z3⟩ <;> (go_grown; done))
            clear hK K
            try (unfold Act.put; dsimp only)
            refine wpAnyN_ready (rs := [4, 6]) (by kernel_rfl) (by simp) ?_
            refine AllReadyN.cons rfl (fun K hK => ?_) ?_
            · refine step_append_waits (by rfl) (by rfl) _ _ (by rfl) wr.heap.size _ 0 [] (by rfl) (own_blk (by first | omega | (simp; done) | (simp; omega)) (by (repeat (first | rw [heap_drew] | rw [heap_push])); simp)) none 0 0 [] rfl (by rfl) (rdw_nil _ _) (fun _ => rfl) (by first | omega | (simp; done) | (simp; omega)) (by omega) ?_
              intro v7 w7 hown7 hg7
              have hb7 : Below wr.heap.size wr w7 := Below.grown (show Below wr.heap.size wr _ by go_grown) hg7 (by first | omega | (simp; done) | (simp; omega)) (fun q hq => by simp [Value.ownBlock] at hq; omega)
              have hk7 := hg7.block
              have z0 := append_cell hg7 (by go_grown) b0 (by first | (simp [Value.ownBlock]; done) | (simp [Value.ownBlock]; omega))
              have z1 := append_cell hg7 (by go_grown) b1 (by first | (simp [Value.ownBlock]; done) | (simp [Value.ownBlock]; omega))
              have z2 := append_cell hg7 (by go_grown) b2 (by first | (simp [Value.ownBlock]; done) | (simp [Value.ownBlock]; omega))
              have z3 := append_cell hg7 (by go_grown) b3 (by first | (simp [Value.ownBlock]; done) | (simp [Value.ownBlock]; omega))
              have hz7 := hb7.size
              have HO7 := Lib.hid hown7
              have HB7 := Lib.hid hb7
              have HK7 := Lib.hid hk7
              clear hown7 hb7 hg7 hk7
              refine hK.out _ _ ?_ (fun hHeld => ?_)
              · (try dsimp only)
                first
                  | (refine ⟨?_, ?_, ?_, ?_⟩ <;> assumption)
                  | (refine ⟨cell_keep ?_ b0, cell_keep ?_ b1, cell_keep ?_ b2, cell_keep ?_ b3⟩ <;> (go_grown; done))
                  | (refine ⟨cell_keep ?_ z0, cell_keep ?_ z1, cell_keep ?_ z2, cell_keep ?_ z3⟩ <;> (go_grown; done))
              clear hK K
              try (unfold Act.put; dsimp only)
              refine wpAnyN_ready (rs := [6]) (by kernel_rfl) (by simp) ?_
              refine AllReadyN.cons rfl (fun K hK => ?_) ?_
              · go_simp
                refine hK.out _ _ ?_ (fun hHeld => ?_)
                · (try dsimp only)
                  first
                    | (refine ⟨?_, ?_, ?_, ?_⟩ <;> assumption)
                    | (refine ⟨cell_keep ?_ b0, cell_keep ?_ b1, cell_keep ?_ b2, cell_keep ?_ b3⟩ <;> (go_grown; done))
                    | (refine ⟨cell_keep ?_ z0, cell_keep ?_ z1, cell_keep ?_ z2, cell_keep ?_ z3⟩ <;> (go_grown; done))
                clear hK K
                try (unfold Act.put; dsimp only)
                refine wpAnyN_ready (rs := [7]) (by kernel_rfl) (by simp) ?_
                refine AllReadyN.cons rfl (fun K hK => ?_) ?_
                · refine step_append_waits (by rfl) (by rfl) _ _ (by rfl) wr.heap.size _ _ _ (by rfl) (own_below HO7.out (by go_grown)) _ 1 1 [⟨x, s, m, true⟩] rfl (by rfl) (rdw_blk (T := 33) (by first | ((repeat (first | rw [heap_drew] | rw [heap_push])); simp; done) | (rw [HK7.out _ (by first | omega | (simp; done) | (simp; omega)) (by simp [Value.ownBlock])]; (repeat (first | rw [heap_drew] | rw [heap_push])); simp; done))) (by intro h; cases h) (by first | omega | (simp; done) | (simp; omega)) (by omega) ?_
                  intro v8 w8 hown8 hg8
                  have hv7 : ∀ q, v7.ownBlock = some q → wr.heap.size ≤ q := fun q hq => (HO7.out.lt q hq).1
                  have hb8 : Below wr.heap.size wr w8 := Below.grown (HB7.out.trans (Below.mono (show Below w7.heap.size w7 _ by go_grown) (by omega))) hg8 (by first | omega | (simp; done) | (simp; omega)) hv7
                  have z0 := append_cell hg8 (by go_grown) z0 (fun e => by have := hv7 _ e; omega)
                  have z1 := append_cell hg8 (by go_grown) z1 (fun e => by have := hv7 _ e; omega)
                  have z2 := append_cell hg8 (by go_grown) z2 (fun e => by have := hv7 _ e; omega)
                  have z3 := append_cell hg8 (by go_grown) z3 (fun e => by have := hv7 _ e; omega)
                  have hz8 := hb8.size
                  have HO8 := Lib.hid hown8
                  have HB8 := Lib.hid hb8
                  clear hown8 hb8 hg8 hv7
                  refine hK.out _ _ ?_ (fun hHeld => ?_)
                  · (try dsimp only)
                    first
                      | (refine ⟨?_, ?_, ?_, ?_⟩ <;> assumption)
                      | (refine ⟨cell_keep ?_ b0, cell_keep ?_ b1, cell_keep ?_ b2, cell_keep ?_ b3⟩ <;> (go_grown; done))
                      | (refine ⟨cell_keep ?_ z0, cell_keep ?_ z1, cell_keep ?_ z2, cell_keep ?_ z3⟩ <;> (go_grown; done))
                  clear hK K
                  try (unfold Act.put; dsimp only)
                  refine wpAnyN_ready (rs := [11]) (by kernel_rfl) (by simp) ?_
                  refine AllReadyN.last rfl rfl (fun K hK => ?_) ?_
                  · refine step_append_waits (by rfl) (by rfl) _ _ (by rfl) wr.heap.size _ _ _ (by rfl) (own_below HO8.out (by go_grown)) none 0 0 [] rfl (by rfl) (rdw_nil _ _) (fun _ => rfl) (by first | omega | (simp; done) | (simp; omega)) (by omega) ?_
                    intro v9 w9 hown9 hg9
                    refine hK.out _ _ ?_
                    clear hK K
                    try (unfold Act.put; dsimp only)
                    refine wpAnyN_ready (rs := [12]) (by kernel_rfl) (by simp) ?_
                    refine AllReadyN.last rfl rfl (fun K hK => ?_) ?_
                    · go_simp
                      refine hK.out _ _ ?_
                      clear hK K
                      try (unfold Act.put; dsimp only)
                      refine wpAnyN_ready (rs := [13]) (by kernel_rfl) (by simp) ?_
                      refine AllReadyN.last rfl rfl (fun K hK => ?_) ?_
                      · go_simp
                        refine hK.out _ _ ?_
                        clear hK K
                        try (unfold Act.put; dsimp only)
                        refine wpAnyN_done (by kernel_rfl) ?_ _
                        go_wp2
                        go_returns
                        have hb9 : Below w.heap.size w w9 := Below.grown (hB1.trans ((HB8.out.trans (Below.mono (show Below w8.heap.size w8 _ by go_grown) hz8)).mono hB1.size)) hg9 (by first | omega | (simp; done) | (simp; omega)) (fun q hq => by have := (HO8.out.lt q hq).1; omega)
                        refine ⟨hb9, .inr ⟨HE.out, v9, rfl, ?_⟩⟩
                        rw [HD.out]
                        exact own_weaken (by simpa [flatW_one, show flatW [] = [] from rfl] using hown9) (by omega)
                      exact AllReadyN.nil
                    exact AllReadyN.nil
                  exact AllReadyN.nil
                exact AllReadyN.nil
              exact AllReadyN.nil
            refine AllReadyN.cons rfl (fun K hK => ?_) ?_
            · go_simp
              refine hK.out _ _ ?_ (fun hHeld => ?_)
              · (try dsimp only)
                first
                  | (refine ⟨?_, ?_, ?_, ?_⟩ <;> assumption)
                  | (refine ⟨cell_keep ?_ b0, cell_keep ?_ b1, cell_keep ?_ b2, cell_keep ?_ b3⟩ <;> (go_grown; done))
                  | (refine ⟨cell_keep ?_ z0, cell_keep ?_ z1, cell_keep ?_ z2, cell_keep ?_ z3⟩ <;> (go_grown; done))
              clear hK K
              try (unfold Act.put; dsimp only)
              refine wpAnyN_ready (rs := [4]) (by kernel_rfl) (by simp) ?_
              refine AllReadyN.cons rfl (fun K hK => ?_) ?_
              · refine step_append_waits (by rfl) (by rfl) _ _ (by rfl) wr.heap.size _ 0 [] (by rfl) (own_blk (by first | omega | (simp; done) | (simp; omega)) (by (repeat (first | rw [heap_drew] | rw [heap_push])); simp)) none 0 0 [] rfl (by rfl) (rdw_nil _ _) (fun _ => rfl) (by first | omega | (simp; done) | (simp; omega)) (by omega) ?_
                intro v7 w7 hown7 hg7
                have hb7 : Below wr.heap.size wr w7 := Below.grown (show Below wr.heap.size wr _ by go_grown) hg7 (by first | omega | (simp; done) | (simp; omega)) (fun q hq => by simp [Value.ownBlock] at hq; omega)
                have hk7 := hg7.block
                have z0 := append_cell hg7 (by go_grown) b0 (by first | (simp [Value.ownBlock]; done) | (simp [Value.ownBlock]; omega))
                have z1 := append_cell hg7 (by go_grown) b1 (by first | (simp [Value.ownBlock]; done) | (simp [Value.ownBlock]; omega))
                have z2 := append_cell hg7 (by go_grown) b2 (by first | (simp [Value.ownBlock]; done) | (simp [Value.ownBlock]; omega))
                have z3 := append_cell hg7 (by go_grown) b3 (by first | (simp [Value.ownBlock]; done) | (simp [Value.ownBlock]; omega))
                have hz7 := hb7.size
                have HO7 := Lib.hid hown7
                have HB7 := Lib.hid hb7
                have HK7 := Lib.hid hk7
                clear hown7 hb7 hg7 hk7
                refine hK.out _ _ ?_ (fun hHeld => ?_)
                · (try dsimp only)
                  first
                    | (refine ⟨?_, ?_, ?_, ?_⟩ <;> assumption)
                    | (refine ⟨cell_keep ?_ b0, cell_keep ?_ b1, cell_keep ?_ b2, cell_keep ?_ b3⟩ <;> (go_grown; done))
                    | (refine ⟨cell_keep ?_ z0, cell_keep ?_ z1, cell_keep ?_ z2, cell_keep ?_ z3⟩ <;> (go_grown; done))
                clear hK K
                try (unfold Act.put; dsimp only)
                refine wpAnyN_ready (rs := [7]) (by kernel_rfl) (by simp) ?_
                refine AllReadyN.cons rfl (fun K hK => ?_) ?_
                · refine step_append_waits (by rfl) (by rfl) _ _ (by rfl) wr.heap.size _ _ _ (by rfl) (own_below HO7.out (by go_grown)) _ 1 1 [⟨x, s, m, true⟩] rfl (by rfl) (rdw_blk (T := 33) (by first | ((repeat (first | rw [heap_drew] | rw [heap_push])); simp; done) | (rw [HK7.out _ (by first | omega | (simp; done) | (simp; omega)) (by simp [Value.ownBlock])]; (repeat (first | rw [heap_drew] | rw [heap_push])); simp; done))) (by intro h; cases h) (by first | omega | (simp; done) | (simp; omega)) (by omega) ?_
                  intro v8 w8 hown8 hg8
                  have hv7 : ∀ q, v7.ownBlock = some q → wr.heap.size ≤ q := fun q hq => (HO7.out.lt q hq).1
                  have hb8 : Below wr.heap.size wr w8 := Below.grown (HB7.out.trans (Below.mono (show Below w7.heap.size w7 _ by go_grown) (by omega))) hg8 (by first | omega | (simp; done) | (simp; omega)) hv7
                  have z0 := append_cell hg8 (by go_grown) z0 (fun e => by have := hv7 _ e; omega)
                  have z1 := append_cell hg8 (by go_grown) z1 (fun e => by have := hv7 _ e; omega)
                  have z2 := append_cell hg8 (by go_grown) z2 (fun e => by have := hv7 _ e; omega)
                  have z3 := append_cell hg8 (by go_grown) z3 (fun e => by have := hv7 _ e; omega)
                  have hz8 := hb8.size
                  have HO8 := Lib.hid hown8
                  have HB8 := Lib.hid hb8
                  clear hown8 hb8 hg8 hv7
                  refine hK.out _ _ ?_ (fun hHeld => ?_)
                  · (try dsimp only)
                    first
                      | (refine ⟨?_, ?_, ?_, ?_⟩ <;> assumption)
                      | (refine ⟨cell_keep ?_ b0, cell_keep ?_ b1, cell_keep ?_ b2, cell_keep ?_ b3⟩ <;> (go_grown; done))
                      | (refine ⟨cell_keep ?_ z0, cell_keep ?_ z1, cell_keep ?_ z2, cell_keep ?_ z3⟩ <;> (go_grown; done))
                  clear hK K
                  try (unfold Act.put; dsimp only)
                  refine wpAnyN_ready (rs := [11]) (by kernel_rfl) (by simp) ?_
                  refine AllReadyN.last rfl rfl (fun K hK => ?_) ?_
                  · refine step_append_waits (by rfl) (by rfl) _ _ (by rfl) wr.heap.size _ _ _ (by rfl) (own_below HO8.out (by go_grown)) none 0 0 [] rfl (by rfl) (rdw_nil _ _) (fun _ => rfl) (by first | omega | (simp; done) | (simp; omega)) (by omega) ?_
                    intro v9 w9 hown9 hg9
                    refine hK.out _ _ ?_
                    clear hK K
                    try (unfold Act.put; dsimp only)
                    refine wpAnyN_ready (rs := [12]) (by kernel_rfl) (by simp) ?_
                    refine AllReadyN.last rfl rfl (fun K hK => ?_) ?_
                    · go_simp
                      refine hK.out _ _ ?_
                      clear hK K
                      try (unfold Act.put; dsimp only)
                      refine wpAnyN_ready (rs := [13]) (by kernel_rfl) (by simp) ?_
                      refine AllReadyN.last rfl rfl (fun K hK => ?_) ?_
                      · go_simp
                        refine hK.out _ _ ?_
                        clear hK K
                        try (unfold Act.put; dsimp only)
                        refine wpAnyN_done (by kernel_rfl) ?_ _
                        go_wp2
                        go_returns
                        have hb9 : Below w.heap.size w w9 := Below.grown (hB1.trans ((HB8.out.trans (Below.mono (show Below w8.heap.size w8 _ by go_grown) hz8)).mono hB1.size)) hg9 (by first | omega | (simp; done) | (simp; omega)) (fun q hq => by have := (HO8.out.lt q hq).1; omega)
                        refine ⟨hb9, .inr ⟨HE.out, v9, rfl, ?_⟩⟩
                        rw [HD.out]
                        exact own_weaken (by simpa [flatW_one, show flatW [] = [] from rfl] using hown9) (by omega)
                      exact AllReadyN.nil
                    exact AllReadyN.nil
                  exact AllReadyN.nil
                exact AllReadyN.nil
              exact AllReadyN.nil
            exact AllReadyN.nil
          refine AllReadyN.cons rfl (fun K hK => ?_) ?_
          · go_simp
            refine hK.out _ _ ?_ (fun hHeld => ?_)
            · (try dsimp only)
              first
                | (refine ⟨?_, ?_, ?_, ?_⟩ <;> assumption)
                | (refine ⟨cell_keep ?_ b0, cell_keep ?_ b1, cell_keep ?_ b2, cell_keep ?_ b3⟩ <;> (go_grown; done))
                | (refine ⟨cell_keep ?_ z0, cell_keep ?_ z1, cell_keep ?_ z2, cell_keep ?_ z3⟩ <;> (go_grown; done))
            clear hK K
            try (unfold Act.put; dsimp only)
            refine wpAnyN_ready (rs := [0]) (by kernel_rfl) (by simp) ?_
            refine AllReadyN.cons rfl (fun K hK => ?_) ?_
            · go_simp
              refine hK.out _ _ ?_ (fun hHeld => ?_)
              · (try dsimp only)
                first
                  | (refine ⟨?_, ?_, ?_, ?_⟩ <;> assumption)
                  | (refine ⟨cell_keep ?_ b0, cell_keep ?_ b1, cell_keep ?_ b2, cell_keep ?_ b3⟩ <;> (go_grown; done))
                  | (refine ⟨cell_keep ?_ z0, cell_keep ?_ z1, cell_keep ?_ z2, cell_keep ?_ z3⟩ <;> (go_grown; done))
              clear hK K
              try (unfold Act.put; dsimp only)
              refine wpAnyN_ready (rs := [4]) (by kernel_rfl) (by simp) ?_
              refine AllReadyN.cons rfl (fun K hK => ?_) ?_
              · refine step_append_waits (by rfl) (by rfl) _ _ (by rfl) wr.heap.size _ 0 [] (by rfl) (own_blk (by first | omega | (simp; done) | (simp; omega)) (by (repeat (first | rw [heap_drew] | rw [heap_push])); simp)) none 0 0 [] rfl (by rfl) (rdw_nil _ _) (fun _ => rfl) (by first | omega | (simp; done) | (simp; omega)) (by omega) ?_
                intro v7 w7 hown7 hg7
                have hb7 : Below wr.heap.size wr w7 := Below.grown (show Below wr.heap.size wr _ by go_grown) hg7 (by first | omega | (simp; done) | (simp; omega)) (fun q hq => by simp [Value.ownBlock] at hq; omega)
                have hk7 := hg7.block
                have z0 := append_cell hg7 (by go_grown) b0 (by first | (simp [Value.ownBlock]; done) | (simp [Value.ownBlock]; omega))
                have z1 := append_cell hg7 (by go_grown) b1 (by first | (simp [Value.ownBlock]; done) | (simp [Value.ownBlock]; omega))
                have z2 := append_cell hg7 (by go_grown) b2 (by first | (simp [Value.ownBlock]; done) | (simp [Value.ownBlock]; omega))
                have z3 := append_cell hg7 (by go_grown) b3 (by first | (simp [Value.ownBlock]; done) | (simp [Value.ownBlock]; omega))
                have hz7 := hb7.size
                have HO7 := Lib.hid hown7
                have HB7 := Lib.hid hb7
                have HK7 := Lib.hid hk7
                clear hown7 hb7 hg7 hk7
                refine hK.out _ _ ?_ (fun hHeld => ?_)
                · (try dsimp only)
                  first
                    | (refine ⟨?_, ?_, ?_, ?_⟩ <;> assumption)
                    | (refine ⟨cell_keep ?_ b0, cell_keep ?_ b1, cell_keep ?_ b2, cell_keep ?_ b3⟩ <;> (go_grown; done))
                    | (refine ⟨cell_keep ?_ z0, cell_keep ?_ z1, cell_keep ?_ z2, cell_keep ?_ z3⟩ <;> (go_grown; done))
                clear hK K
                try (unfold Act.put; dsimp only)
                refine wpAnyN_ready (rs := [7]) (by kernel_rfl) (by simp) ?_
                refine AllReadyN.cons rfl (fun K hK => ?_) ?_
                · refine step_append_waits (by rfl) (by rfl) _ _ (by rfl) wr.heap.size _ _ _ (by rfl) (own_below HO7.out (by go_grown)) _ 1 1 [⟨x, s, m, true⟩] rfl (by rfl) (rdw_blk (T := 33) (by first | ((repeat (first | rw [heap_drew] | rw [heap_push])); simp; done) | (rw [HK7.out _ (by first | omega | (simp; done) | (simp; omega)) (by simp [Value.ownBlock])]; (repeat (first | rw [heap_drew] | rw [heap_push])); simp; done))) (by intro h; cases h) (by first | omega | (simp; done) | (simp; omega)) (by omega) ?_
                  intro v8 w8 hown8 hg8
                  have hv7 : ∀ q, v7.ownBlock = some q → wr.heap.size ≤ q := fun q hq => (HO7.out.lt q hq).1
                  have hb8 : Below wr.heap.size wr w8 := Below.grown (HB7.out.trans (Below.mono (show Below w7.heap.size w7 _ by go_grown) (by omega))) hg8 (by first | omega | (simp; done) | (simp; omega)) hv7
                  have z0 := append_cell hg8 (by go_grown) z0 (fun e => by have := hv7 _ e; omega)
                  have z1 := append_cell hg8 (by go_grown) z1 (fun e => by have := hv7 _ e; omega)
                  have z2 := append_cell hg8 (by go_grown) z2 (fun e => by have := hv7 _ e; omega)
                  have z3 := append_cell hg8 (by go_grown) z3 (fun e => by have := hv7 _ e; omega)
                  have hz8 := hb8.size
                  have HO8 := Lib.hid hown8
                  have HB8 := Lib.hid hb8
                  clear hown8 hb8 hg8 hv7
                  refine hK.out _ _ ?_ (fun hHeld => ?_)
                  · (try dsimp only)
                    first
                      | (refine ⟨?_, ?_, ?_, ?_⟩ <;> assumption)
                      | (refine ⟨cell_keep ?_ b0, cell_keep ?_ b1, cell_keep ?_ b2, cell_keep ?_ b3⟩ <;> (go_grown; done))
                      | (refine ⟨cell_keep ?_ z0, cell_keep ?_ z1, cell_keep ?_ z2, cell_keep ?_ z3⟩ <;> (go_grown; done))
                  clear hK K
                  try (unfold Act.put; dsimp only)
                  refine wpAnyN_ready (rs := [11]) (by kernel_rfl) (by simp) ?_
                  refine AllReadyN.last rfl rfl (fun K hK => ?_) ?_
                  · refine step_append_waits (by rfl) (by rfl) _ _ (by rfl) wr.heap.size _ _ _ (by rfl) (own_below HO8.out (by go_grown)) none 0 0 [] rfl (by rfl) (rdw_nil _ _) (fun _ => rfl) (by first | omega | (simp; done) | (simp; omega)) (by omega) ?_
                    intro v9 w9 hown9 hg9
                    refine hK.out _ _ ?_
                    clear hK K
                    try (unfold Act.put; dsimp only)
                    refine wpAnyN_ready (rs := [12]) (by kernel_rfl) (by simp) ?_
                    refine AllReadyN.last rfl rfl (fun K hK => ?_) ?_
                    · go_simp
                      refine hK.out _ _ ?_
                      clear hK K
                      try (unfold Act.put; dsimp only)
                      refine wpAnyN_ready (rs := [13]) (by kernel_rfl) (by simp) ?_
                      refine AllReadyN.last rfl rfl (fun K hK => ?_) ?_
                      · go_simp
                        refine hK.out _ _ ?_
                        clear hK K
                        try (unfold Act.put; dsimp only)
                        refine wpAnyN_done (by kernel_rfl) ?_ _
                        go_wp2
                        go_returns
                        have hb9 : Below w.heap.size w w9 := Below.grown (hB1.trans ((HB8.out.trans (Below.mono (show Below w8.heap.size w8 _ by go_grown) hz8)).mono hB1.size)) hg9 (by first | omega | (simp; done) | (simp; omega)) (fun q hq => by have := (HO8.out.lt q hq).1; omega)
                        refine ⟨hb9, .inr ⟨HE.out, v9, rfl, ?_⟩⟩
                        rw [HD.out]
                        exact own_weaken (by simpa [flatW_one, show flatW [] = [] from rfl] using hown9) (by omega)
                      exact AllReadyN.nil
                    exact AllReadyN.nil
                  exact AllReadyN.nil
                exact AllReadyN.nil
              exact AllReadyN.nil
            exact AllReadyN.nil
          exact AllReadyN.nil
end Go.Proofs.Ytpbgdldaojpjkaa

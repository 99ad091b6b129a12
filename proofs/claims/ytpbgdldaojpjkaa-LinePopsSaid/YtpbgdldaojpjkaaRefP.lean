/-
  The document's Push and Leave: the list then. No other conditions.
-/
import Derived.Test.YtpbgdldaojpjkaaRefS
namespace Go.Proofs.Ytpbgdldaojpjkaa
open Go.ChangeShapes Go.WideShapes Go.ChangeAt Go.RowKit
set_option linter.unusedVariables false

theorem rdw_take {w : World} {A : Option Addr} {es : List Wt} (h : RdW w A es) (k : Nat) : RdW w A (es.take k) := by
  obtain ⟨g, off, hA, hc⟩ := h
  refine ⟨g, off, fun hn => hA (by rw [List.length_take] at hn; omega), fun i hi => ?_⟩
  rw [List.length_take] at hi
  rw [List.getD_eq_getElem?_getD, List.getElem?_take_of_lt (by omega), ← List.getD_eq_getElem?_getD]
  exact hc i (by omega)

/-- what is left of a row from k on: at whatever address the slicing gives -/
theorem rdw_drop {w : World} {gx ox : Nat} {es : List Wt} (hg : gx < w.heap.size) (hc : ∀ i, i < es.length → Cells4 w gx (ox + i * 4) (es.getD i Wt.none)) (k : Nat) (A : Option Addr) (hA : k < es.length → A = some ⟨gx, ox + k * 4, none⟩) : RdW w A (es.drop k) := by
  refine ⟨gx, ox + k * 4, fun hn => ⟨hA (by rw [List.length_drop] at hn; omega), hg⟩, fun i hi => ?_⟩
  rw [List.length_drop] at hi
  rw [List.getD_eq_getElem?_getD, List.getElem?_drop, ← List.getD_eq_getElem?_getD, Nat.add_assoc, ← Nat.add_mul]
  exact hc (k + i) (by omega)

theorem own_emptyW (w : World) (e : TypeId) (s : Nat) : (w.alloc (.cells #[] e)).ownsRow w.heap.size e s (.slice (some ⟨w.heap.size, 0, none⟩) 0 0) 0 [] :=
  ⟨by simp, .inr ⟨w.heap.size, 0, #[], rfl, Nat.le_refl _, heap_alloc_new w _, Nat.le_refl _, by unfold maxLen; omega, by simp, by simp⟩⟩
theorem rdw_one (w : World) (x s m : Int) (u : Bool) (T : TypeId) : RdW (w.alloc (.cells #[.int .i64 x, .int .i64 s, .int .i64 m, .bool u] T)) (some ⟨w.heap.size, 0, none⟩) [⟨x, s, m, u⟩] :=
  ⟨w.heap.size, 0, fun _ => ⟨rfl, by simp⟩, fun i hi => by
    obtain rfl : i = 0 := by simpa using hi
    unfold Cells4; simp⟩

/-- the append of a row of waiting ones, as one step of a region that draws -/
theorem step_append_waits {ops : Array Oper} {o : Oper} {a : Act} {w : World} {K : Act → World → Prop} {Q : Exit → Act → World → Prop} {E : Prop}
    (hgd : o.guard = none) (hty : o.type = 30) (s x : Operand) (hop : o.op = Op.call { callee := Callee.builtin Builtin.append, args := #[s, x], argTypes := #[30, 30] })
    (B : Nat) (v : Value) (k : Nat) (xs : List Value) (hs : a.eval s = v) (hown : w.ownsRow B 33 4 v k xs) (A : Option Addr) (n c : Nat) (bs : List Wt) (hl : bs.length = n) (hx : a.eval x = .slice A n c) (h : RdW w A bs) (hA0 : A = none → n = 0) (hB : B ≤ w.heap.size) (hk : k + n ≤ 1000000)
    (hK : ∀ v' w', w'.ownsRow B 33 4 v' (k + n) (xs ++ flatW bs) → w.grownBy w' v.ownBlock → K (a.put o.dst v') w') :
    if Region.wanted o (yielded ops a.tmps) = true then Oper.wp Try.prog o a w K Q else E := by
  have hw : Region.wanted o (yielded ops a.tmps) = true := by simp [Region.wanted, hgd]
  rw [if_pos hw]
  obtain ⟨v', w', hrun, h2, h3⟩ := run_append_waits B v k xs w hown A n c bs hl h hA0 hB hk
  unfold Oper.wp execOp
  simp only [hop, hty, resolve, invoke, builtin, Sem.run_bind, Sem.run_pure, Result.andThen_ok, List.map_toArray, List.map_cons, List.map_nil, hs, hx, hrun]
  exact hK _ _ h2 h3

theorem rdw_blk {w : World} {b : Nat} {x s m : Int} {u : Bool} {T : TypeId} (h : w.heap[b]? = some (.cells #[.int .i64 x, .int .i64 s, .int .i64 m, .bool u] T (0, 0))) : RdW w (some ⟨b, 0, none⟩) [⟨x, s, m, u⟩] :=
  ⟨b, 0, fun _ => ⟨rfl, (Array.getElem?_eq_some_iff.1 h).1⟩, fun i hi => by
    obtain rfl : i = 0 := by simpa using hi
    unfold Cells4; simp [World.cell?, h]⟩
theorem own_blk {w : World} {B b : Nat} {T : TypeId} {s : Nat} (hB : B ≤ b) (h : w.heap[b]? = some (.cells #[] T (0, 0))) : w.ownsRow B T s (.slice (some ⟨b, 0, none⟩) 0 0) 0 [] :=
  ⟨by simp, .inr ⟨b, 0, #[], rfl, hB, h, Nat.le_refl _, by unfold maxLen; omega, by simp, by simp⟩⟩
/-- what slicing from k on gives, where nothing is left in the row the address stays -/
theorem slice_at {w : World} {gx ox n c : Nat} {es : List Wt} (h : RdW w (some ⟨gx, ox, none⟩) es) (hl : es.length = n) (hnc : n ≤ c) (k : Nat) (hk : k ≤ n) :
    ∃ A, (∀ a b : Option Addr, a = some ⟨gx, ox, none⟩ → b = some ⟨gx, ox + k * 4, none⟩ → (if c = k then a else b) = A) ∧ A ≠ none ∧ ∀ w', Below w.heap.size w w' → RdW w' A (es.drop k) := by
  by_cases hck : c = k
  · refine ⟨some ⟨gx, ox, none⟩, fun a b h _ => by rw [if_pos hck]; exact h, by simp, fun w' _ => ?_⟩
    rw [List.drop_of_length_le (by omega)]
    exact rdw_nil _ _
  · refine ⟨some ⟨gx, ox + k * 4, none⟩, fun a b _ h => by rw [if_neg hck]; exact h, by simp, fun w' hb => ?_⟩
    rcases Nat.eq_zero_or_pos es.length with h0 | h0
    · rw [List.drop_of_length_le (by omega)]
      exact rdw_nil _ _
    · obtain ⟨g, off, hA, hc⟩ := h.below hb
      obtain ⟨he, hg⟩ := hA h0
      cases he
      exact rdw_drop hg hc k _ (fun _ => rfl)

/-- what the document's Push answers -/
def DPushOf (w w' : World) (A : Option Addr) (n c : Nat) (es : List Wt) (lim : Int) (e : Wt) (r : Ending) : Prop :=
  Below w.heap.size w w' ∧ ((dPushE es lim e ≠ 0 ∧ r = .returned (.tuple #[.slice A n c, .int .i64 (dPushE es lim e)])) ∨
    (dPushE es lim e = 0 ∧ ∃ v, r = .returned (.tuple #[v, .int .i64 0]) ∧ w'.ownsRow w.heap.size 33 4 v (dPush es lim e).length (flatW (dPush es lim e))))

set_option maxRecDepth 100000 in
set_option maxHeartbeats 8000000 in
theorem rpush_any (gx ox n c : Nat) (es : List Wt) (lim x s m : Int) (u : Bool) (w : World) (h : RdW w (some ⟨gx, ox, none⟩) es) (hl : es.length = n) (hn : n ≤ 10000) (hnc : n ≤ c) (hc63 : c ≤ 9223372036854775807) :
    Calls Try.prog 11 #[.slice (some ⟨gx, ox, none⟩) n c, .int .i64 lim, .agg #[.int .i64 x, .int .i64 s, .int .i64 m, .bool u]] w fun r w' => DPushOf w w' (some ⟨gx, ox, none⟩) n c es lim ⟨x, s, m, u⟩ r := by
  have hbA : Below w.heap.size w (w.alloc (.cells #[.int .i64 x, .int .i64 s, .int .i64 m, .bool u] 33)) := (Below.refl _ _).alloc (Nat.le_refl _) _
  have H := Lib.hid h
  have HL := Lib.hid hl
  clear h hl
  go_enter Try.func11, Try.ntmps11
  go_wp2_with fail
  refine (rmay_any x s m u _).mono ?_
  rintro e w1 ⟨rfl, hb1⟩
  have hB1 : Below w.heap.size w w1 := hbA.trans (hb1.mono (by simp))
  have hw1 : w.heap.size < w1.heap.size := by have := hb1.size; simp at this; omega
  have b0 := (hb1.cell (p := ⟨w.heap.size, 0, none⟩) (by simp)).trans (by simp : _ = some (.int .i64 x))
  have b1 := (hb1.cell (p := ⟨w.heap.size, 1, none⟩) (by simp)).trans (by simp : _ = some (.int .i64 s))
  have b2 := (hb1.cell (p := ⟨w.heap.size, 2, none⟩) (by simp)).trans (by simp : _ = some (.int .i64 m))
  have b3 := (hb1.cell (p := ⟨w.heap.size, 3, none⟩) (by simp)).trans (by simp : _ = some (.bool u))
  rcases hok : (⟨x, s, m, u⟩ : Wt).ok with _ | _
  · have hE : dPushE es lim ⟨x, s, m, u⟩ = 1 := by unfold dPushE; rw [if_pos hok]
    go_wp2
    go_returns
    exact ⟨hB1, .inl ⟨by rw [hE]; decide, by rw [hE]; rfl⟩⟩
  · go_wp2_with fail
    refine (rfind_any _ n c es x w1 (H.out.below hB1) HL.out hn).mono ?_
    rintro e w2 ⟨rfl, rfl⟩
    by_cases hf : findW es x < n
    · have hE : dPushE es lim ⟨x, s, m, u⟩ = 8 := by unfold dPushE; rw [if_neg (by rw [hok]; decide), if_pos (by rw [HL.out]; exact hf)]
      have hfi : findI es x = (findW es x : Int) := by unfold findI; rw [if_pos (by rw [HL.out]; exact hf)]
      rw [hfi]
      have hge : (0 : Int) ≤ (findW es x : Int) := by omega
      generalize findW es x = fx at *
      go_wp2
      go_returns
      exact ⟨hB1, .inl ⟨by rw [hE]; decide, by rw [hE]; rfl⟩⟩
    · have hfi : findI es x = -1 := by unfold findI; rw [if_neg (by rw [HL.out]; exact hf)]
      rw [hfi]
      by_cases hfull : lim ≤ (n : Int)
      · have hE : dPushE es lim ⟨x, s, m, u⟩ = 7 := by unfold dPushE; rw [if_neg (by rw [hok]; decide), if_neg (by rw [HL.out]; exact hf), if_pos (by rw [HL.out]; exact hfull)]
        go_wp2
        go_returns
        exact ⟨hB1, .inl ⟨by rw [hE]; decide, by rw [hE]; rfl⟩⟩
      · have hE : dPushE es lim ⟨x, s, m, u⟩ = 0 := by unfold dPushE; rw [if_neg (by rw [hok]; decide), if_neg (by rw [HL.out]; exact hf), if_neg (by rw [HL.out]; exact hfull)]
        have hD : dPush es lim ⟨x, s, m, u⟩ = es.take (dAt es ⟨x, s, m, u⟩) ++ [⟨x, s, m, u⟩] ++ es.drop (dAt es ⟨x, s, m, u⟩) := by unfold dPush; rw [if_pos hE]
        have HE := Lib.hid hE
        have HD := Lib.hid hD
        clear hE hD
        have hfull' : ¬ lim ≤ (n : Int) := hfull
        go_wp2
        go_loopw [8] (fun i wr => wr = w1 ∧ ∃ j : Nat, j ≤ n ∧ i = .int .i64 j ∧ dAt es ⟨x, s, m, u⟩ = (if u then back es j else n) ∧ (u = false → j = n)) (fun i _ => (intOf i).toNat)
        case atStart => exact ⟨rfl, n, by omega, rfl, by unfold dAt; simp only; rw [HL.out], fun _ => rfl⟩
        case round =>
          obtain ⟨rfl, j, hj, rfl, hat, hun⟩ := hrel
          cases u
          · have hjn' := hun rfl
            subst hjn'
            have hatj : dAt es ⟨x, s, m, false⟩ = j := by rw [hat, if_neg (by decide)]
            obtain ⟨Ad, hAd, hAdn, hRd⟩ := slice_at (H.out.below hB1) HL.out hnc j hj
            have HAD := Lib.hid hAd
            have HRD := Lib.hid hRd
            have HAT := Lib.hid hatj
            have hbase : w.heap.size + 1 ≤ wr.heap.size := by omega
            have hjc : (j : Int) ≤ c := by omega
            have hjn : (j : Int) ≤ j := by omega
            have hj0 : (0 : Int) ≤ j := by omega
            clear hAd hRd hatj hat hun
            go_wp2
            refine wp_region_N (S := (fun w' => w'.cell? ⟨w.heap.size, 0, none⟩ = some (.int .i64 x) ∧ w'.cell? ⟨w.heap.size, 1, none⟩ = some (.int .i64 s) ∧ w'.cell? ⟨w.heap.size, 2, none⟩ = some (.int .i64 m) ∧ w'.cell? ⟨w.heap.size, 3, none⟩ = some (.bool false))) (fun i => !(i == 11 || i == 12 || i == 13)) (by kernel_rfl) ?_ (fun hHeld => ?_)
            · (try dsimp only)
              first
                | (refine ⟨?_, ?_, ?_, ?_⟩ <;> assumption)
                | (refine ⟨cell_keep ?_ b0, cell_keep ?_ b1, cell_keep ?_ b2, cell_keep ?_ b3⟩ <;> (go_grown; done))
                | (refine ⟨cell_keep ?_ z0, cell_keep ?_ z1, cell_keep ?_ z2, cell_keep ?_ z3⟩ <;> (go_grown; done))
            refine wpAnyN_take [3, 4, 7, 11, 12, 13] (i := 1) (v := ?_) rfl (by kernel_rfl) (by kernel_rfl) (by kernel_rfl) (by kernel_rfl) (by kernel_rfl) (fun _ _ _ h => h) (Or.inl ⟨by rfl, ?_⟩) (by assumption) ?_
            rotate_left
            focus
              intro w hSw
              (try dsimp only at hSw)
              go_simp
              try with_reducible rfl
            try (unfold Act.put; dsimp only)
            refine wpAnyN_take [3, 4, 7, 11, 12, 13] (i := 2) (v := ?_) rfl (by kernel_rfl) (by kernel_rfl) (by kernel_rfl) (by kernel_rfl) (by kernel_rfl) (fun _ _ _ h => h) (Or.inl ⟨by rfl, ?_⟩) (by assumption) ?_
            rotate_left
            focus
              intro w hSw
              (try dsimp only at hSw)
              go_simp
              try with_reducible rfl
            try (unfold Act.put; dsimp only)
            refine wpAnyN_take [4, 7, 11, 12, 13] (i := 3) (v := ?_) rfl (by kernel_rfl) (by kernel_rfl) (by kernel_rfl) (by kernel_rfl) (by kernel_rfl) (fun _ _ _ h => h) (Or.inl ⟨by rfl, ?_⟩) (by assumption) ?_
            rotate_left
            focus
              intro w hSw
              (try dsimp only at hSw)
              go_simp
              try with_reducible rfl
            try (unfold Act.put; dsimp only)
            refine wpAnyN_take [6, 7, 11, 12, 13] (i := 5) (v := ?_) rfl (by kernel_rfl) (by kernel_rfl) (by kernel_rfl) (by kernel_rfl) (by kernel_rfl) (fun _ _ _ h => h) (Or.inl ⟨by rfl, ?_⟩) (by assumption) ?_
            rotate_left
            focus
              intro w hSw
              (try dsimp only at hSw)
              go_simp
              try with_reducible rfl
            try (unfold Act.put; dsimp only)
            refine wpAnyN_take [10, 11, 12, 13] (i := 8) (v := ?_) rfl (by kernel_rfl) (by kernel_rfl) (by kernel_rfl) (by kernel_rfl) (by kernel_rfl) (fun _ _ _ h => h) (Or.inl ⟨by rfl, ?_⟩) (by assumption) ?_
            rotate_left
            focus
              intro w hSw
              (try dsimp only at hSw)
              go_simp
              try with_reducible rfl
            try (unfold Act.put; dsimp only)
            refine wpAnyN_take [10, 11, 12, 13] (i := 9) (v := ?_) rfl (by kernel_rfl) (by kernel_rfl) (by kernel_rfl) (by kernel_rfl) (by kernel_rfl) (fun _ _ _ h => h) (Or.inl ⟨by rfl, ?_⟩) (by assumption) ?_
            rotate_left
            focus
              intro w hSw
              (try dsimp only at hSw)
              go_simp
              try with_reducible rfl
            try (unfold Act.put; dsimp only)
            refine wpAnyN_take [11, 12, 13] (i := 10) (v := ?_) rfl (by kernel_rfl) (by kernel_rfl) (by kernel_rfl) (by kernel_rfl) (by kernel_rfl) (fun _ _ _ h => h) (Or.inl ⟨by rfl, ?_⟩) (by assumption) ?_
            rotate_left
            focus
              intro w hSw
              (try dsimp only at hSw)
              go_simp
              try with_reducible rfl
            try (unfold Act.put; dsimp only)
            refine wpAnyN_ready (rs := [0, 6]) (by kernel_rfl) (by simp) ?_
            refine AllReadyN.cons rfl (fun K hK => ?_) ?_
            · go_simp
              refine hK.out _ _ ?_ (fun hHeld => ?_)
              · (try dsimp only)
                first
                  | (refine ⟨?_, ?_, ?_, ?_⟩ <;> assumption)
                  | (refine ⟨cell_keep ?_ b0, cell_keep ?_ b1, cell_keep ?_ b2, cell_keep ?_ b3⟩ <;> (go_grown; done))
                  | (refine ⟨cell_keep ?_ z0, cell_keep ?_ z1, cell_keep ?_ z2, cell_keep ?_ z3⟩ <;> (go_grown; done))
              clear hK K
              try (unfold Act.put; dsimp only)
              refine wpAnyN_ready (rs := [4, 6]) (by kernel_rfl) (by simp) ?_
              refine AllReadyN.cons rfl (fun K hK => ?_) ?_
              · refine step_append_waits (by rfl) (by rfl) _ _ (by rfl) wr.heap.size _ 0 [] (by rfl) (own_blk (by first | omega | (simp; done) | (simp; omega)) (by (repeat (first | rw [heap_drew] | rw [heap_push])); simp)) (some ⟨gx, ox, none⟩) j c (es.take j) (by rw [List.length_take, HL.out]; omega) (by rfl) (rdw_take ((H.out.below hB1).below (by go_grown)) j) (by intro h; cases h) (by first | omega | (simp; done) | (simp; omega)) (by omega) ?_
                intro v7 w7 hown7 hg7
                have hb7 : Below wr.heap.size wr w7 := Below.grown (show Below wr.heap.size wr _ by go_grown) hg7 (by first | omega | (simp; done) | (simp; omega)) (fun q hq => by simp [Value.ownBlock] at hq; omega)
                have hk7 := hg7.block
                have z0 := append_cell hg7 (by go_grown) b0 (by first | (simp [Value.ownBlock]; done) | (simp [Value.ownBlock]; omega))
                have z1 := append_cell hg7 (by go_grown) b1 (by first | (simp [Value.ownBlock]; done) | (simp [Value.ownBlock]; omega))
                have z2 := append_cell hg7 (by go_grown) b2 (by first | (simp [Value.ownBlock]; done) | (simp [Value.ownBlock]; omega))
                have z3 := append_cell hg7 (by go_grown) b3 (by first | (simp [Value.ownBlock]; done) | (simp [Value.ownBlock]; omega))
                have hz7 := hb7.size
                have HO7 := Lib.hid hown7
                have HB7 := Lib.hid hb7
                have HK7 := Lib.hid hk7
                clear hown7 hb7 hg7 hk7
                refine hK.out _ _ ?_ (fun hHeld => ?_)
                · (try dsimp only)
                  first
                    | (refine ⟨?_, ?_, ?_, ?_⟩ <;> assumption)
                    | (refine ⟨cell_keep ?_ b0, cell_keep ?_ b1, cell_keep ?_ b2, cell_keep ?_ b3⟩ <;> (go_grown; done))
                    | (refine ⟨cell_keep ?_ z0, cell_keep ?_ z1, cell_keep ?_ z2, cell_keep ?_ z3⟩ <;> (go_grown; done))
                clear hK K
                try (unfold Act.put; dsimp only)
                refine wpAnyN_ready (rs := [6]) (by kernel_rfl) (by simp) ?_
                refine AllReadyN.cons rfl (fun K hK => ?_) ?_
                · go_simp
                  refine hK.out _ _ ?_ (fun hHeld => ?_)
                  · (try dsimp only)
                    first
                      | (refine ⟨?_, ?_, ?_, ?_⟩ <;> assumption)
                      | (refine ⟨cell_keep ?_ b0, cell_keep ?_ b1, cell_keep ?_ b2, cell_keep ?_ b3⟩ <;> (go_grown; done))
                      | (refine ⟨cell_keep ?_ z0, cell_keep ?_ z1, cell_keep ?_ z2, cell_keep ?_ z3⟩ <;> (go_grown; done))
                  clear hK K
                  try (unfold Act.put; dsimp only)
                  refine wpAnyN_ready (rs := [7]) (by kernel_rfl) (by simp) ?_
                  refine AllReadyN.cons rfl (fun K hK => ?_) ?_
                  · refine step_append_waits (by rfl) (by rfl) _ _ (by rfl) wr.heap.size _ _ _ (by rfl) (own_below HO7.out (by go_grown)) _ 1 1 [⟨x, s, m, false⟩] rfl (by rfl) (rdw_blk (T := 33) (by first | ((repeat (first | rw [heap_drew] | rw [heap_push])); simp; done) | (rw [HK7.out _ (by first | omega | (simp; done) | (simp; omega)) (by simp [Value.ownBlock])]; (repeat (first | rw [heap_drew] | rw [heap_push])); simp; done))) (by intro h; cases h) (by first | omega | (simp; done) | (simp; omega)) (by omega) ?_
                    intro v8 w8 hown8 hg8
                    have hv7 : ∀ q, v7.ownBlock = some q → wr.heap.size ≤ q := fun q hq => (HO7.out.lt q hq).1
                    have hb8 : Below wr.heap.size wr w8 := Below.grown (HB7.out.trans (Below.mono (show Below w7.heap.size w7 _ by go_grown) (by omega))) hg8 (by first | omega | (simp; done) | (simp; omega)) hv7
                    have z0 := append_cell hg8 (by go_grown) z0 (fun e => by have := hv7 _ e; omega)
                    have z1 := append_cell hg8 (by go_grown) z1 (fun e => by have := hv7 _ e; omega)
                    have z2 := append_cell hg8 (by go_grown) z2 (fun e => by have := hv7 _ e; omega)
                    have z3 := append_cell hg8 (by go_grown) z3 (fun e => by have := hv7 _ e; omega)
                    have hz8 := hb8.size
                    have HO8 := Lib.hid hown8
                    have HB8 := Lib.hid hb8
                    clear hown8 hb8 hg8 hv7
                    refine hK.out _ _ ?_ (fun hHeld => ?_)
                    · (try dsimp only)
                      first
                        | (refine ⟨?_, ?_, ?_, ?_⟩ <;> assumption)
                        | (refine ⟨cell_keep ?_ b0, cell_keep ?_ b1, cell_keep ?_ b2, cell_keep ?_ b3⟩ <;> (go_grown; done))
                        | (refine ⟨cell_keep ?_ z0, cell_keep ?_ z1, cell_keep ?_ z2, cell_keep ?_ z3⟩ <;> (go_grown; done))
                    clear hK K
                    try (unfold Act.put; dsimp only)
                    refine wpAnyN_ready (rs := [11]) (by kernel_rfl) (by simp) ?_
                    refine AllReadyN.last rfl rfl (fun K hK => ?_) ?_
                    · refine step_append_waits (by rfl) (by rfl) _ _ (by rfl) wr.heap.size _ _ _ (by rfl) (own_below HO8.out (by go_grown)) Ad 0 (c - j) (es.drop j) (by rw [List.length_drop, HL.out]; omega) (by first | (simp [Act.eval]; exact HAD.out _ _ rfl rfl) | (simp [Act.eval, Act.put]; exact HAD.out _ _ rfl rfl)) (HRD.out _ (HB8.out.trans (Below.mono (show Below w8.heap.size w8 _ by go_grown) hz8))) (fun h => absurd h hAdn) (by first | omega | (simp; done) | (simp; omega)) (by omega) ?_
                      intro v9 w9 hown9 hg9
                      refine hK.out _ _ ?_
                      clear hK K
                      try (unfold Act.put; dsimp only)
                      refine wpAnyN_ready (rs := [12]) (by kernel_rfl) (by simp) ?_
                      refine AllReadyN.last rfl rfl (fun K hK => ?_) ?_
                      · go_simp
                        refine hK.out _ _ ?_
                        clear hK K
                        try (unfold Act.put; dsimp only)
                        refine wpAnyN_ready (rs := [13]) (by kernel_rfl) (by simp) ?_
                        refine AllReadyN.last rfl rfl (fun K hK => ?_) ?_
                        · go_simp
                          refine hK.out _ _ ?_
                          clear hK K
                          try (unfold Act.put; dsimp only)
                          refine wpAnyN_done (by kernel_rfl) ?_ _
                          go_wp2
                          all_goals
                            go_returns
                            have hb9 : Below w.heap.size w w9 := Below.grown (hB1.trans ((HB8.out.trans (Below.mono (show Below w8.heap.size w8 _ by go_grown) hz8)).mono hB1.size)) hg9 (by first | omega | (simp; done) | (simp; omega)) (fun q hq => by have := (HO8.out.lt q hq).1; omega)
                            refine ⟨hb9, .inr ⟨HE.out, v9, rfl, ?_⟩⟩
                            rw [HD.out, HAT.out]
                            have hlen : (es.take j ++ [(⟨x, s, m, false⟩ : Wt)] ++ es.drop j).length = 0 + j + 1 + 0 := by
                              rw [List.length_append, List.length_append, List.length_take, List.length_drop, HL.out]
                              show min j j + 1 + (j - j) = _
                              omega
                            rw [hlen, flatW_append, flatW_append, flatW_one]
                            exact own_weaken (by simpa [flatW_one] using hown9) (by omega)
                        exact AllReadyN.nil
                      exact AllReadyN.nil
                    exact AllReadyN.nil
                  exact AllReadyN.nil
                exact AllReadyN.nil
              refine AllReadyN.cons rfl (fun K hK => ?_) ?_
              · go_simp
                refine hK.out _ _ ?_ (fun hHeld => ?_)
                · (try dsimp only)
                  first
                    | (refine ⟨?_, ?_, ?_, ?_⟩ <;> assumption)
                    | (refine ⟨cell_keep ?_ b0, cell_keep ?_ b1, cell_keep ?_ b2, cell_keep ?_ b3⟩ <;> (go_grown; done))
                    | (refine ⟨cell_keep ?_ z0, cell_keep ?_ z1, cell_keep ?_ z2, cell_keep ?_ z3⟩ <;> (go_grown; done))
                clear hK K
                try (unfold Act.put; dsimp only)
                refine wpAnyN_ready (rs := [4]) (by kernel_rfl) (by simp) ?_
                refine AllReadyN.cons rfl (fun K hK => ?_) ?_
                · refine step_append_waits (by rfl) (by rfl) _ _ (by rfl) wr.heap.size _ 0 [] (by rfl) (own_blk (by first | omega | (simp; done) | (simp; omega)) (by (repeat (first | rw [heap_drew] | rw [heap_push])); simp)) (some ⟨gx, ox, none⟩) j c (es.take j) (by rw [List.length_take, HL.out]; omega) (by rfl) (rdw_take ((H.out.below hB1).below (by go_grown)) j) (by intro h; cases h) (by first | omega | (simp; done) | (simp; omega)) (by omega) ?_
                  intro v7 w7 hown7 hg7
                  have hb7 : Below wr.heap.size wr w7 := Below.grown (show Below wr.heap.size wr _ by go_grown) hg7 (by first | omega | (simp; done) | (simp; omega)) (fun q hq => by simp [Value.ownBlock] at hq; omega)
                  have hk7 := hg7.block
                  have z0 := append_cell hg7 (by go_grown) b0 (by first | (simp [Value.ownBlock]; done) | (simp [Value.ownBlock]; omega))
                  have z1 := append_cell hg7 (by go_grown) b1 (by first | (simp [Value.ownBlock]; done) | (simp [Value.ownBlock]; omega))
                  have z2 := append_cell hg7 (by go_grown) b2 (by first | (simp [Value.ownBlock]; done) | (simp [Value.ownBlock]; omega))
                  have z3 := append_cell hg7 (by go_grown) b3 (by first | (simp [Value.ownBlock]; done) | (simp [Value.ownBlock]; omega))
                  have hz7 := hb7.size
                  have HO7 := Lib.hid hown7
                  have HB7 := Lib.hid hb7
                  have HK7 := Lib.hid hk7
                  clear hown7 hb7 hg7 hk7
                  refine hK.out _ _ ?_ (fun hHeld => ?_)
                  · (try dsimp only)
                    first
                      | (refine ⟨?_, ?_, ?_, ?_⟩ <;> assumption)
                      | (refine ⟨cell_keep ?_ b0, cell_keep ?_ b1, cell_keep ?_ b2, cell_keep ?_ b3⟩ <;> (go_grown; done))
                      | (refine ⟨cell_keep ?_ z0, cell_keep ?_ z1, cell_keep ?_ z2, cell_keep ?_ z3⟩ <;> (go_grown; done))
                  clear hK K
                  try (unfold Act.put; dsimp only)
                  refine wpAnyN_ready (rs := [7]) (by kernel_rfl) (by simp) ?_
                  refine AllReadyN.cons rfl (fun K hK => ?_) ?_
                  · refine step_append_waits (by rfl) (by rfl) _ _ (by rfl) wr.heap.size _ _ _ (by rfl) (own_below HO7.out (by go_grown)) _ 1 1 [⟨x, s, m, false⟩] rfl (by rfl) (rdw_blk (T := 33) (by first | ((repeat (first | rw [heap_drew] | rw [heap_push])); simp; done) | (rw [HK7.out _ (by first | omega | (simp; done) | (simp; omega)) (by simp [Value.ownBlock])]; (repeat (first | rw [heap_drew] | rw [heap_push])); simp; done))) (by intro h; cases h) (by first | omega | (simp; done) | (simp; omega)) (by omega) ?_
                    intro v8 w8 hown8 hg8
                    have hv7 : ∀ q, v7.ownBlock = some q → wr.heap.size ≤ q := fun q hq => (HO7.out.lt q hq).1
                    have hb8 : Below wr.heap.size wr w8 := Below.grown (HB7.out.trans (Below.mono (show Below w7.heap.size w7 _ by go_grown) (by omega))) hg8 (by first | omega | (simp; done) | (simp; omega)) hv7
                    have z0 := append_cell hg8 (by go_grown) z0 (fun e => by have := hv7 _ e; omega)
                    have z1 := append_cell hg8 (by go_grown) z1 (fun e => by have := hv7 _ e; omega)
                    have z2 := append_cell hg8 (by go_grown) z2 (fun e => by have := hv7 _ e; omega)
                    have z3 := append_cell hg8 (by go_grown) z3 (fun e => by have := hv7 _ e; omega)
                    have hz8 := hb8.size
                    have HO8 := Lib.hid hown8
                    have HB8 := Lib.hid hb8
                    clear hown8 hb8 hg8 hv7
                    refine hK.out _ _ ?_ (fun hHeld => ?_)
                    · (try dsimp only)
                      first
                        | (refine ⟨?_, ?_, ?_, ?_⟩ <;> assumption)
                        | (refine ⟨cell_keep ?_ b0, cell_keep ?_ b1, cell_keep ?_ b2, cell_keep ?_ b3⟩ <;> (go_grown; done))
                        | (refine ⟨cell_keep ?_ z0, cell_keep ?_ z1, cell_keep ?_ z2, cell_keep ?_ z3⟩ <;> (go_grown; done))
                    clear hK K
                    try (unfold Act.put; dsimp only)
                    refine wpAnyN_ready (rs := [11]) (by kernel_rfl) (by simp) ?_
                    refine AllReadyN.last rfl rfl (fun K hK => ?_) ?_
                    · refine step_append_waits (by rfl) (by rfl) _ _ (by rfl) wr.heap.size _ _ _ (by rfl) (own_below HO8.out (by go_grown)) Ad 0 (c - j) (es.drop j) (by rw [List.length_drop, HL.out]; omega) (by first | (simp [Act.eval]; exact HAD.out _ _ rfl rfl) | (simp [Act.eval, Act.put]; exact HAD.out _ _ rfl rfl)) (HRD.out _ (HB8.out.trans (Below.mono (show Below w8.heap.size w8 _ by go_grown) hz8))) (fun h => absurd h hAdn) (by first | omega | (simp; done) | (simp; omega)) (by omega) ?_
                      intro v9 w9 hown9 hg9
                      refine hK.out _ _ ?_
                      clear hK K
                      try (unfold Act.put; dsimp only)
                      refine wpAnyN_ready (rs := [12]) (by kernel_rfl) (by simp) ?_
                      refine AllReadyN.last rfl rfl (fun K hK => ?_) ?_
                      · go_simp
                        refine hK.out _ _ ?_
                        clear hK K
                        try (unfold Act.put; dsimp only)
                        refine wpAnyN_ready (rs := [13]) (by kernel_rfl) (by simp) ?_
                        refine AllReadyN.last rfl rfl (fun K hK => ?_) ?_
                        · go_simp
                          refine hK.out _ _ ?_
                          clear hK K
                          try (unfold Act.put; dsimp only)
                          refine wpAnyN_done (by kernel_rfl) ?_ _
                          go_wp2
                          all_goals
                            go_returns
                            have hb9 : Below w.heap.size w w9 := Below.grown (hB1.trans ((HB8.out.trans (Below.mono (show Below w8.heap.size w8 _ by go_grown) hz8)).mono hB1.size)) hg9 (by first | omega | (simp; done) | (simp; omega)) (fun q hq => by have := (HO8.out.lt q hq).1; omega)
                            refine ⟨hb9, .inr ⟨HE.out, v9, rfl, ?_⟩⟩
                            rw [HD.out, HAT.out]
                            have hlen : (es.take j ++ [(⟨x, s, m, false⟩ : Wt)] ++ es.drop j).length = 0 + j + 1 + 0 := by
                              rw [List.length_append, List.length_append, List.length_take, List.length_drop, HL.out]
                              show min j j + 1 + (j - j) = _
                              omega
                            rw [hlen, flatW_append, flatW_append, flatW_one]
                            exact own_weaken (by simpa [flatW_one] using hown9) (by omega)
                        exact AllReadyN.nil
                      exact AllReadyN.nil
                    exact AllReadyN.nil
                  exact AllReadyN.nil
                exact AllReadyN.nil
              exact AllReadyN.nil
            refine AllReadyN.cons rfl (fun K hK => ?_) ?_
            · go_simp
              refine hK.out _ _ ?_ (fun hHeld => ?_)
              · (try dsimp only)
                first
                  | (refine ⟨?_, ?_, ?_, ?_⟩ <;> assumption)
                  | (refine ⟨cell_keep ?_ b0, cell_keep ?_ b1, cell_keep ?_ b2, cell_keep ?_ b3⟩ <;> (go_grown; done))
                  | (refine ⟨cell_keep ?_ z0, cell_keep ?_ z1, cell_keep ?_ z2, cell_keep ?_ z3⟩ <;> (go_grown; done))
              clear hK K
              try (unfold Act.put; dsimp only)
              refine wpAnyN_ready (rs := [0]) (by kernel_rfl) (by simp) ?_
              refine AllReadyN.cons rfl (fun K hK => ?_) ?_
              · go_simp
                refine hK.out _ _ ?_ (fun hHeld => ?_)
                · (try dsimp only)
                  first
                    | (refine ⟨?_, ?_, ?_, ?_⟩ <;> assumption)
                    | (refine ⟨cell_keep ?_ b0, cell_keep ?_ b1, cell_keep ?_ b2, cell_keep ?_ b3⟩ <;> (go_grown; done))
                    | (refine ⟨cell_keep ?_ z0, cell_keep ?_ z1, cell_keep ?_ z2, cell_keep ?_ z3⟩ <;> (go_grown; done))
                clear hK K
                try (unfold Act.put; dsimp only)
                refine wpAnyN_ready (rs := [4]) (by kernel_rfl) (by simp) ?_
                refine AllReadyN.cons rfl (fun K hK => ?_) ?_
                · refine step_append_waits (by rfl) (by rfl) _ _ (by rfl) wr.heap.size _ 0 [] (by rfl) (own_blk (by first | omega | (simp; done) | (simp; omega)) (by (repeat (first | rw [heap_drew] | rw [heap_push])); simp)) (some ⟨gx, ox, none⟩) j c (es.take j) (by rw [List.length_take, HL.out]; omega) (by rfl) (rdw_take ((H.out.below hB1).below (by go_grown)) j) (by intro h; cases h) (by first | omega | (simp; done) | (simp; omega)) (by omega) ?_
                  intro v7 w7 hown7 hg7
                  have hb7 : Below wr.heap.size wr w7 := Below.grown (show Below wr.heap.size wr _ by go_grown) hg7 (by first | omega | (simp; done) | (simp; omega)) (fun q hq => by simp [Value.ownBlock] at hq; omega)
                  have hk7 := hg7.block
                  have z0 := append_cell hg7 (by go_grown) b0 (by first | (simp [Value.ownBlock]; done) | (simp [Value.ownBlock]; omega))
                  have z1 := append_cell hg7 (by go_grown) b1 (by first | (simp [Value.ownBlock]; done) | (simp [Value.ownBlock]; omega))
                  have z2 := append_cell hg7 (by go_grown) b2 (by first | (simp [Value.ownBlock]; done) | (simp [Value.ownBlock]; omega))
                  have z3 := append_cell hg7 (by go_grown) b3 (by first | (simp [Value.ownBlock]; done) | (simp [Value.ownBlock]; omega))
                  have hz7 := hb7.size
                  have HO7 := Lib.hid hown7
                  have HB7 := Lib.hid hb7
                  have HK7 := Lib.hid hk7
                  clear hown7 hb7 hg7 hk7
                  refine hK.out _ _ ?_ (fun hHeld => ?_)
                  · (try dsimp only)
                    first
                      | (refine ⟨?_, ?_, ?_, ?_⟩ <;> assumption)
                      | (refine ⟨cell_keep ?_ b0, cell_keep ?_ b1, cell_keep ?_ b2, cell_keep ?_ b3⟩ <;> (go_grown; done))
                      | (refine ⟨cell_keep ?_ z0, cell_keep ?_ z1, cell_keep ?_ z2, cell_keep ?_ z3⟩ <;> (go_grown; done))
                  clear hK K
                  try (unfold Act.put; dsimp only)
                  refine wpAnyN_ready (rs := [7]) (by kernel_rfl) (by simp) ?_
                  refine AllReadyN.cons rfl (fun K hK => ?_) ?_
                  · refine step_append_waits (by rfl) (by rfl) _ _ (by rfl) wr.heap.size _ _ _ (by rfl) (own_below HO7.out (by go_grown)) _ 1 1 [⟨x, s, m, false⟩] rfl (by rfl) (rdw_blk (T := 33) (by first | ((repeat (first | rw [heap_drew] | rw [heap_push])); simp; done) | (rw [HK7.out _ (by first | omega | (simp; done) | (simp; omega)) (by simp [Value.ownBlock])]; (repeat (first | rw [heap_drew] | rw [heap_push])); simp; done))) (by intro h; cases h) (by first | omega | (simp; done) | (simp; omega)) (by omega) ?_
                    intro v8 w8 hown8 hg8
                    have hv7 : ∀ q, v7.ownBlock = some q → wr.heap.size ≤ q := fun q hq => (HO7.out.lt q hq).1
                    have hb8 : Below wr.heap.size wr w8 := Below.grown (HB7.out.trans (Below.mono (show Below w7.heap.size w7 _ by go_grown) (by omega))) hg8 (by first | omega | (simp; done) | (simp; omega)) hv7
                    have z0 := append_cell hg8 (by go_grown) z0 (fun e => by have := hv7 _ e; omega)
                    have z1 := append_cell hg8 (by go_grown) z1 (fun e => by have := hv7 _ e; omega)
                    have z2 := append_cell hg8 (by go_grown) z2 (fun e => by have := hv7 _ e; omega)
                    have z3 := append_cell hg8 (by go_grown) z3 (fun e => by have := hv7 _ e; omega)
                    have hz8 := hb8.size
                    have HO8 := Lib.hid hown8
                    have HB8 := Lib.hid hb8
                    clear hown8 hb8 hg8 hv7
                    refine hK.out _ _ ?_ (fun hHeld => ?_)
                    · (try dsimp only)
                      first
                        | (refine ⟨?_, ?_, ?_, ?_⟩ <;> assumption)
                        | (refine ⟨cell_keep ?_ b0, cell_keep ?_ b1, cell_keep ?_ b2, cell_keep ?_ b3⟩ <;> (go_grown; done))
                        | (refine ⟨cell_keep ?_ z0, cell_keep ?_ z1, cell_keep ?_ z2, cell_keep ?_ z3⟩ <;> (go_grown; done))
                    clear hK K
                    try (unfold Act.put; dsimp only)
                    refine wpAnyN_ready (rs := [11]) (by kernel_rfl) (by simp) ?_
                    refine AllReadyN.last rfl rfl (fun K hK => ?_) ?_
                    · refine step_append_waits (by rfl) (by rfl) _ _ (by rfl) wr.heap.size _ _ _ (by rfl) (own_below HO8.out (by go_grown)) Ad 0 (c - j) (es.drop j) (by rw [List.length_drop, HL.out]; omega) (by first | (simp [Act.eval]; exact HAD.out _ _ rfl rfl) | (simp [Act.eval, Act.put]; exact HAD.out _ _ rfl rfl)) (HRD.out _ (HB8.out.trans (Below.mono (show Below w8.heap.size w8 _ by go_grown) hz8))) (fun h => absurd h hAdn) (by first | omega | (simp; done) | (simp; omega)) (by omega) ?_
                      intro v9 w9 hown9 hg9
                      refine hK.out _ _ ?_
                      clear hK K
                      try (unfold Act.put; dsimp only)
                      refine wpAnyN_ready (rs := [12]) (by kernel_rfl) (by simp) ?_
                      refine AllReadyN.last rfl rfl (fun K hK => ?_) ?_
                      · go_simp
                        refine hK.out _ _ ?_
                        clear hK K
                        try (unfold Act.put; dsimp only)
                        refine wpAnyN_ready (rs := [13]) (by kernel_rfl) (by simp) ?_
                        refine AllReadyN.last rfl rfl (fun K hK => ?_) ?_
                        · go_simp
                          refine hK.out _ _ ?_
                          clear hK K
                          try (unfold Act.put; dsimp only)
                          refine wpAnyN_done (by kernel_rfl) ?_ _
                          go_wp2
                          all_goals
                            go_returns
                            have hb9 : Below w.heap.size w w9 := Below.grown (hB1.trans ((HB8.out.trans (Below.mono (show Below w8.heap.size w8 _ by go_grown) hz8)).mono hB1.size)) hg9 (by first | omega | (simp; done) | (simp; omega)) (fun q hq => by have := (HO8.out.lt q hq).1; omega)
                            refine ⟨hb9, .inr ⟨HE.out, v9, rfl, ?_⟩⟩
                            rw [HD.out, HAT.out]
                            have hlen : (es.take j ++ [(⟨x, s, m, false⟩ : Wt)] ++ es.drop j).length = 0 + j + 1 + 0 := by
                              rw [List.length_append, List.length_append, List.length_take, List.length_drop, HL.out]
                              show min j j + 1 + (j - j) = _
                              omega
                            rw [hlen, flatW_append, flatW_append, flatW_one]
                            exact own_weaken (by simpa [flatW_one] using hown9) (by omega)
                        exact AllReadyN.nil
                      exact AllReadyN.nil
                    exact AllReadyN.nil
                  exact AllReadyN.nil
                exact AllReadyN.nil
              exact AllReadyN.nil
            exact AllReadyN.nil
          · have hupj : dAt es ⟨x, s, m, true⟩ = back es j := by rw [hat, if_pos rfl]
            rcases Nat.eq_zero_or_pos j with hz | hz
            · have hatj : dAt es ⟨x, s, m, true⟩ = j := by rw [hupj, hz]; rfl
              have hguard : decide ((0 : Int) < j) = false := decide_eq_false (by omega)
              have hguard2 : decide (0 < j) = false := decide_eq_false (by omega)
              clear hz
              obtain ⟨Ad, hAd, hAdn, hRd⟩ := slice_at (H.out.below hB1) HL.out hnc j hj
              have HAD := Lib.hid hAd
              have HRD := Lib.hid hRd
              have HAT := Lib.hid hatj
              have hbase : w.heap.size + 1 ≤ wr.heap.size := by omega
              have hjc : (j : Int) ≤ c := by omega
              have hjn : (j : Int) ≤ n := by omega
              have hj0 : (0 : Int) ≤ j := by omega
              clear hAd hRd hatj hat hun hupj
              go_wp2
              refine wp_region_N (S := (fun w' => w'.cell? ⟨w.heap.size, 0, none⟩ = some (.int .i64 x) ∧ w'.cell? ⟨w.heap.size, 1, none⟩ = some (.int .i64 s) ∧ w'.cell? ⟨w.heap.size, 2, none⟩ = some (.int .i64 m) ∧ w'.cell? ⟨w.heap.size, 3, none⟩ = some (.bool true))) (fun i => !(i == 11 || i == 12 || i == 13)) (by kernel_rfl) ?_ (fun hHeld => ?_)
              · (try dsimp only)
                first
                  | (refine ⟨?_, ?_, ?_, ?_⟩ <;> assumption)
                  | (refine ⟨cell_keep ?_ b0, cell_keep ?_ b1, cell_keep ?_ b2, cell_keep ?_ b3⟩ <;> (go_grown; done))
                  | (refine ⟨cell_keep ?_ z0, cell_keep ?_ z1, cell_keep ?_ z2, cell_keep ?_ z3⟩ <;> (go_grown; done))
              refine wpAnyN_take [3, 4, 7, 11, 12, 13] (i := 1) (v := ?_) rfl (by kernel_rfl) (by kernel_rfl) (by kernel_rfl) (by kernel_rfl) (by kernel_rfl) (fun _ _ _ h => h) (Or.inl ⟨by rfl, ?_⟩) (by assumption) ?_
              rotate_left
              focus
                intro w hSw
                (try dsimp only at hSw)
                go_simp
                try with_reducible rfl
              try (unfold Act.put; dsimp only)
              refine wpAnyN_take [3, 4, 7, 11, 12, 13] (i := 2) (v := ?_) rfl (by kernel_rfl) (by kernel_rfl) (by kernel_rfl) (by kernel_rfl) (by kernel_rfl) (fun _ _ _ h => h) (Or.inl ⟨by rfl, ?_⟩) (by assumption) ?_
              rotate_left
              focus
                intro w hSw
                (try dsimp only at hSw)
                go_simp
                try with_reducible rfl
              try (unfold Act.put; dsimp only)
              refine wpAnyN_take [4, 7, 11, 12, 13] (i := 3) (v := ?_) rfl (by kernel_rfl) (by kernel_rfl) (by kernel_rfl) (by kernel_rfl) (by kernel_rfl) (fun _ _ _ h => h) (Or.inl ⟨by rfl, ?_⟩) (by assumption) ?_
              rotate_left
              focus
                intro w hSw
                (try dsimp only at hSw)
                go_simp
                try with_reducible rfl
              try (unfold Act.put; dsimp only)
              refine wpAnyN_take [6, 7, 11, 12, 13] (i := 5) (v := ?_) rfl (by kernel_rfl) (by kernel_rfl) (by kernel_rfl) (by kernel_rfl) (by kernel_rfl) (fun _ _ _ h => h) (Or.inl ⟨by rfl, ?_⟩) (by assumption) ?_
              rotate_left
              focus
                intro w hSw
                (try dsimp only at hSw)
                go_simp
                try with_reducible rfl
              try (unfold Act.put; dsimp only)
              refine wpAnyN_take [10, 11, 12, 13] (i := 8) (v := ?_) rfl (by kernel_rfl) (by kernel_rfl) (by kernel_rfl) (by kernel_rfl) (by kernel_rfl) (fun _ _ _ h => h) (Or.inl ⟨by rfl, ?_⟩) (by assumption) ?_
              rotate_left
              focus
                intro w hSw
                (try dsimp only at hSw)
                go_simp
                try with_reducible rfl
              try (unfold Act.put; dsimp only)
              refine wpAnyN_take [10, 11, 12, 13] (i := 9) (v := ?_) rfl (by kernel_rfl) (by kernel_rfl) (by kernel_rfl) (by kernel_rfl) (by kernel_rfl) (fun _ _ _ h => h) (Or.inl ⟨by rfl, ?_⟩) (by assumption) ?_
              rotate_left
              focus
                intro w hSw
                (try dsimp only at hSw)
                go_simp
                try with_reducible rfl
              try (unfold Act.put; dsimp only)
              refine wpAnyN_take [11, 12, 13] (i := 10) (v := ?_) rfl (by kernel_rfl) (by kernel_rfl) (by kernel_rfl) (by kernel_rfl) (by kernel_rfl) (fun _ _ _ h => h) (Or.inl ⟨by rfl, ?_⟩) (by assumption) ?_
              rotate_left
              focus
                intro w hSw
                (try dsimp only at hSw)
                go_simp
                try with_reducible rfl
              try (unfold Act.put; dsimp only)
              refine wpAnyN_ready (rs := [0, 6]) (by kernel_rfl) (by simp) ?_
              refine AllReadyN.cons rfl (fun K hK => ?_) ?_
              · go_simp
                refine hK.out _ _ ?_ (fun hHeld => ?_)
                · (try dsimp only)
                  first
                    | (refine ⟨?_, ?_, ?_, ?_⟩ <;> assumption)
                    | (refine ⟨cell_keep ?_ b0, cell_keep ?_ b1, cell_keep ?_ b2, cell_keep ?_ b3⟩ <;> (go_grown; done))
                    | (refine ⟨cell_keep ?_ z0, cell_keep ?_ z1, cell_keep ?_ z2, cell_keep ?_ z3⟩ <;> (go_grown; done))
                clear hK K
                try (unfold Act.put; dsimp only)
                refine wpAnyN_ready (rs := [4, 6]) (by kernel_rfl) (by simp) ?_
                refine AllReadyN.cons rfl (fun K hK => ?_) ?_
                · refine step_append_waits (by rfl) (by rfl) _ _ (by rfl) wr.heap.size _ 0 [] (by rfl) (own_blk (by first | omega | (simp; done) | (simp; omega)) (by (repeat (first | rw [heap_drew] | rw [heap_push])); simp)) (some ⟨gx, ox, none⟩) j c (es.take j) (by rw [List.length_take, HL.out]; omega) (by rfl) (rdw_take ((H.out.below hB1).below (by go_grown)) j) (by intro h; cases h) (by first | omega | (simp; done) | (simp; omega)) (by omega) ?_
                  intro v7 w7 hown7 hg7
                  have hb7 : Below wr.heap.size wr w7 := Below.grown (show Below wr.heap.size wr _ by go_grown) hg7 (by first | omega | (simp; done) | (simp; omega)) (fun q hq => by simp [Value.ownBlock] at hq; omega)
                  have hk7 := hg7.block
                  have z0 := append_cell hg7 (by go_grown) b0 (by first | (simp [Value.ownBlock]; done) | (simp [Value.ownBlock]; omega))
                  have z1 := append_cell hg7 (by go_grown) b1 (by first | (simp [Value.ownBlock]; done) | (simp [Value.ownBlock]; omega))
                  have z2 := append_cell hg7 (by go_grown) b2 (by first | (simp [Value.ownBlock]; done) | (simp [Value.ownBlock]; omega))
                  have z3 := append_cell hg7 (by go_grown) b3 (by first | (simp [Value.ownBlock]; done) | (simp [Value.ownBlock]; omega))
                  have hz7 := hb7.size
                  have HO7 := Lib.hid hown7
                  have HB7 := Lib.hid hb7
                  have HK7 := Lib.hid hk7
                  clear hown7 hb7 hg7 hk7
                  refine hK.out _ _ ?_ (fun hHeld => ?_)
                  · (try dsimp only)
                    first
                      | (refine ⟨?_, ?_, ?_, ?_⟩ <;> assumption)
                      | (refine ⟨cell_keep ?_ b0, cell_keep ?_ b1, cell_keep ?_ b2, cell_keep ?_ b3⟩ <;> (go_grown; done))
                      | (refine ⟨cell_keep ?_ z0, cell_keep ?_ z1, cell_keep ?_ z2, cell_keep ?_ z3⟩ <;> (go_grown; done))
                  clear hK K
                  try (unfold Act.put; dsimp only)
                  refine wpAnyN_ready (rs := [6]) (by kernel_rfl) (by simp) ?_
                  refine AllReadyN.cons rfl (fun K hK => ?_) ?_
                  · go_simp
                    refine hK.out _ _ ?_ (fun hHeld => ?_)
                    · (try dsimp only)
                      first
                        | (refine ⟨?_, ?_, ?_, ?_⟩ <;> assumption)
                        | (refine ⟨cell_keep ?_ b0, cell_keep ?_ b1, cell_keep ?_ b2, cell_keep ?_ b3⟩ <;> (go_grown; done))
                        | (refine ⟨cell_keep ?_ z0, cell_keep ?_ z1, cell_keep ?_ z2, cell_keep ?_ z3⟩ <;> (go_grown; done))
                    clear hK K
                    try (unfold Act.put; dsimp only)
                    refine wpAnyN_ready (rs := [7]) (by kernel_rfl) (by simp) ?_
                    refine AllReadyN.cons rfl (fun K hK => ?_) ?_
                    · refine step_append_waits (by rfl) (by rfl) _ _ (by rfl) wr.heap.size _ _ _ (by rfl) (own_below HO7.out (by go_grown)) _ 1 1 [⟨x, s, m, true⟩] rfl (by rfl) (rdw_blk (T := 33) (by first | ((repeat (first | rw [heap_drew] | rw [heap_push])); simp; done) | (rw [HK7.out _ (by first | omega | (simp; done) | (simp; omega)) (by simp [Value.ownBlock])]; (repeat (first | rw [heap_drew] | rw [heap_push])); simp; done))) (by intro h; cases h) (by first | omega | (simp; done) | (simp; omega)) (by omega) ?_
                      intro v8 w8 hown8 hg8
                      have hv7 : ∀ q, v7.ownBlock = some q → wr.heap.size ≤ q := fun q hq => (HO7.out.lt q hq).1
                      have hb8 : Below wr.heap.size wr w8 := Below.grown (HB7.out.trans (Below.mono (show Below w7.heap.size w7 _ by go_grown) (by omega))) hg8 (by first | omega | (simp; done) | (simp; omega)) hv7
                      have z0 := append_cell hg8 (by go_grown) z0 (fun e => by have := hv7 _ e; omega)
                      have z1 := append_cell hg8 (by go_grown) z1 (fun e => by have := hv7 _ e; omega)
                      have z2 := append_cell hg8 (by go_grown) z2 (fun e => by have := hv7 _ e; omega)
                      have z3 := append_cell hg8 (by go_grown) z3 (fun e => by have := hv7 _ e; omega)
                      have hz8 := hb8.size
                      have HO8 := Lib.hid hown8
                      have HB8 := Lib.hid hb8
                      clear hown8 hb8 hg8 hv7
                      refine hK.out _ _ ?_ (fun hHeld => ?_)
                      · (try dsimp only)
                        first
                          | (refine ⟨?_, ?_, ?_, ?_⟩ <;> assumption)
                          | (refine ⟨cell_keep ?_ b0, cell_keep ?_ b1, cell_keep ?_ b2, cell_keep ?_ b3⟩ <;> (go_grown; done))
                          | (refine ⟨cell_keep ?_ z0, cell_keep ?_ z1, cell_keep ?_ z2, cell_keep ?_ z3⟩ <;> (go_grown; done))
                      clear hK K
                      try (unfold Act.put; dsimp only)
                      refine wpAnyN_ready (rs := [11]) (by kernel_rfl) (by simp) ?_
                      refine AllReadyN.last rfl rfl (fun K hK => ?_) ?_
                      · refine step_append_waits (by rfl) (by rfl) _ _ (by rfl) wr.heap.size _ _ _ (by rfl) (own_below HO8.out (by go_grown)) Ad (n - j) (c - j) (es.drop j) (by rw [List.length_drop, HL.out]) (by first | (simp [Act.eval]; exact HAD.out _ _ rfl rfl) | (simp [Act.eval, Act.put]; exact HAD.out _ _ rfl rfl)) (HRD.out _ (HB8.out.trans (Below.mono (show Below w8.heap.size w8 _ by go_grown) hz8))) (fun h => absurd h hAdn) (by first | omega | (simp; done) | (simp; omega)) (by omega) ?_
                        intro v9 w9 hown9 hg9
                        refine hK.out _ _ ?_
                        clear hK K
                        try (unfold Act.put; dsimp only)
                        refine wpAnyN_ready (rs := [12]) (by kernel_rfl) (by simp) ?_
                        refine AllReadyN.last rfl rfl (fun K hK => ?_) ?_
                        · go_simp
                          refine hK.out _ _ ?_
                          clear hK K
                          try (unfold Act.put; dsimp only)
                          refine wpAnyN_ready (rs := [13]) (by kernel_rfl) (by simp) ?_
                          refine AllReadyN.last rfl rfl (fun K hK => ?_) ?_
                          · go_simp
                            refine hK.out _ _ ?_
                            clear hK K
                            try (unfold Act.put; dsimp only)
                            refine wpAnyN_done (by kernel_rfl) ?_ _
                            go_wp2
                            all_goals
                              go_returns
                              have hb9 : Below w.heap.size w w9 := Below.grown (hB1.trans ((HB8.out.trans (Below.mono (show Below w8.heap.size w8 _ by go_grown) hz8)).mono hB1.size)) hg9 (by first | omega | (simp; done) | (simp; omega)) (fun q hq => by have := (HO8.out.lt q hq).1; omega)
                              refine ⟨hb9, .inr ⟨HE.out, v9, rfl, ?_⟩⟩
                              rw [HD.out, HAT.out]
                              have hlen : (es.take j ++ [(⟨x, s, m, true⟩ : Wt)] ++ es.drop j).length = 0 + j + 1 + (n - j) := by
                                rw [List.length_append, List.length_append, List.length_take, List.length_drop, HL.out]
                                show min j n + 1 + (n - j) = _
                                omega
                              rw [hlen, flatW_append, flatW_append, flatW_one]
                              exact own_weaken (by simpa [flatW_one] using hown9) (by omega)
                          exact AllReadyN.nil
                        exact AllReadyN.nil
                      exact AllReadyN.nil
                    exact AllReadyN.nil
                  exact AllReadyN.nil
                refine AllReadyN.cons rfl (fun K hK => ?_) ?_
                · go_simp
                  refine hK.out _ _ ?_ (fun hHeld => ?_)
                  · (try dsimp only)
                    first
                      | (refine ⟨?_, ?_, ?_, ?_⟩ <;> assumption)
                      | (refine ⟨cell_keep ?_ b0, cell_keep ?_ b1, cell_keep ?_ b2, cell_keep ?_ b3⟩ <;> (go_grown; done))
                      | (refine ⟨cell_keep ?_ z0, cell_keep ?_ z1, cell_keep ?_ z2, cell_keep ?_ z3⟩ <;> (go_grown; done))
                  clear hK K
                  try (unfold Act.put; dsimp only)
                  refine wpAnyN_ready (rs := [4]) (by kernel_rfl) (by simp) ?_
                  refine AllReadyN.cons rfl (fun K hK => ?_) ?_
                  · refine step_append_waits (by rfl) (by rfl) _ _ (by rfl) wr.heap.size _ 0 [] (by rfl) (own_blk (by first | omega | (simp; done) | (simp; omega)) (by (repeat (first | rw [heap_drew] | rw [heap_push])); simp)) (some ⟨gx, ox, none⟩) j c (es.take j) (by rw [List.length_take, HL.out]; omega) (by rfl) (rdw_take ((H.out.below hB1).below (by go_grown)) j) (by intro h; cases h) (by first | omega | (simp; done) | (simp; omega)) (by omega) ?_
                    intro v7 w7 hown7 hg7
                    have hb7 : Below wr.heap.size wr w7 := Below.grown (show Below wr.heap.size wr _ by go_grown) hg7 (by first | omega | (simp; done) | (simp; omega)) (fun q hq => by simp [Value.ownBlock] at hq; omega)
                    have hk7 := hg7.block
                    have z0 := append_cell hg7 (by go_grown) b0 (by first | (simp [Value.ownBlock]; done) | (simp [Value.ownBlock]; omega))
                    have z1 := append_cell hg7 (by go_grown) b1 (by first | (simp [Value.ownBlock]; done) | (simp [Value.ownBlock]; omega))
                    have z2 := append_cell hg7 (by go_grown) b2 (by first | (simp [Value.ownBlock]; done) | (simp [Value.ownBlock]; omega))
                    have z3 := append_cell hg7 (by go_grown) b3 (by first | (simp [Value.ownBlock]; done) | (simp [Value.ownBlock]; omega))
                    have hz7 := hb7.size
                    have HO7 := Lib.hid hown7
                    have HB7 := Lib.hid hb7
                    have HK7 := Lib.hid hk7
                    clear hown7 hb7 hg7 hk7
                    refine hK.out _ _ ?_ (fun hHeld => ?_)
                    · (try dsimp only)
                      first
                        | (refine ⟨?_, ?_, ?_, ?_⟩ <;> assumption)
                        | (refine ⟨cell_keep ?_ b0, cell_keep ?_ b1, cell_keep ?_ b2, cell_keep ?_ b3⟩ <;> (go_grown; done))
                        | (refine ⟨cell_keep ?_ z0, cell_keep ?_ z1, cell_keep ?_ z2, cell_keep ?_ z3⟩ <;> (go_grown; done))
                    clear hK K
                    try (unfold Act.put; dsimp only)
                    refine wpAnyN_ready (rs := [7]) (by kernel_rfl) (by simp) ?_
                    refine AllReadyN.cons rfl (fun K hK => ?_) ?_
                    · refine step_append_waits (by rfl) (by rfl) _ _ (by rfl) wr.heap.size _ _ _ (by rfl) (own_below HO7.out (by go_grown)) _ 1 1 [⟨x, s, m, true⟩] rfl (by rfl) (rdw_blk (T := 33) (by first | ((repeat (first | rw [heap_drew] | rw [heap_push])); simp; done) | (rw [HK7.out _ (by first | omega | (simp; done) | (simp; omega)) (by simp [Value.ownBlock])]; (repeat (first | rw [heap_drew] | rw [heap_push])); simp; done))) (by intro h; cases h) (by first | omega | (simp; done) | (simp; omega)) (by omega) ?_
                      intro v8 w8 hown8 hg8
                      have hv7 : ∀ q, v7.ownBlock = some q → wr.heap.size ≤ q := fun q hq => (HO7.out.lt q hq).1
                      have hb8 : Below wr.heap.size wr w8 := Below.grown (HB7.out.trans (Below.mono (show Below w7.heap.size w7 _ by go_grown) (by omega))) hg8 (by first | omega | (simp; done) | (simp; omega)) hv7
                      have z0 := append_cell hg8 (by go_grown) z0 (fun e => by have := hv7 _ e; omega)
                      have z1 := append_cell hg8 (by go_grown) z1 (fun e => by have := hv7 _ e; omega)
                      have z2 := append_cell hg8 (by go_grown) z2 (fun e => by have := hv7 _ e; omega)
                      have z3 := append_cell hg8 (by go_grown) z3 (fun e => by have := hv7 _ e; omega)
                      have hz8 := hb8.size
                      have HO8 := Lib.hid hown8
                      have HB8 := Lib.hid hb8
                      clear hown8 hb8 hg8 hv7
                      refine hK.out _ _ ?_ (fun hHeld => ?_)
                      · (try dsimp only)
                        first
                          | (refine ⟨?_, ?_, ?_, ?_⟩ <;> assumption)
                          | (refine ⟨cell_keep ?_ b0, cell_keep ?_ b1, cell_keep ?_ b2, cell_keep ?_ b3⟩ <;> (go_grown; done))
                          | (refine ⟨cell_keep ?_ z0, cell_keep ?_ z1, cell_keep ?_ z2, cell_keep ?_ z3⟩ <;> (go_grown; done))
                      clear hK K
                      try (unfold Act.put; dsimp only)
                      refine wpAnyN_ready (rs := [11]) (by kernel_rfl) (by simp) ?_
                      refine AllReadyN.last rfl rfl (fun K hK => ?_) ?_
                      · refine step_append_waits (by rfl) (by rfl) _ _ (by rfl) wr.heap.size _ _ _ (by rfl) (own_below HO8.out (by go_grown)) Ad (n - j) (c - j) (es.drop j) (by rw [List.length_drop, HL.out]) (by first | (simp [Act.eval]; exact HAD.out _ _ rfl rfl) | (simp [Act.eval, Act.put]; exact HAD.out _ _ rfl rfl)) (HRD.out _ (HB8.out.trans (Below.mono (show Below w8.heap.size w8 _ by go_grown) hz8))) (fun h => absurd h hAdn) (by first | omega | (simp; done) | (simp; omega)) (by omega) ?_
                        intro v9 w9 hown9 hg9
                        refine hK.out _ _ ?_
                        clear hK K
                        try (unfold Act.put; dsimp only)
                        refine wpAnyN_ready (rs := [12]) (by kernel_rfl) (by simp) ?_
                        refine AllReadyN.last rfl rfl (fun K hK => ?_) ?_
                        · go_simp
                          refine hK.out _ _ ?_
                          clear hK K
                          try (unfold Act.put; dsimp only)
                          refine wpAnyN_ready (rs := [13]) (by kernel_rfl) (by simp) ?_
                          refine AllReadyN.last rfl rfl (fun K hK => ?_) ?_
                          · go_simp
                            refine hK.out _ _ ?_
                            clear hK K
                            try (unfold Act.put; dsimp only)
                            refine wpAnyN_done (by kernel_rfl) ?_ _
                            go_wp2
                            all_goals
                              go_returns
                              have hb9 : Below w.heap.size w w9 := Below.grown (hB1.trans ((HB8.out.trans (Below.mono (show Below w8.heap.size w8 _ by go_grown) hz8)).mono hB1.size)) hg9 (by first | omega | (simp; done) | (simp; omega)) (fun q hq => by have := (HO8.out.lt q hq).1; omega)
                              refine ⟨hb9, .inr ⟨HE.out, v9, rfl, ?_⟩⟩
                              rw [HD.out, HAT.out]
                              have hlen : (es.take j ++ [(⟨x, s, m, true⟩ : Wt)] ++ es.drop j).length = 0 + j + 1 + (n - j) := by
                                rw [List.length_append, List.length_append, List.length_take, List.length_drop, HL.out]
                                show min j n + 1 + (n - j) = _
                                omega
                              rw [hlen, flatW_append, flatW_append, flatW_one]
                              exact own_weaken (by simpa [flatW_one] using hown9) (by omega)
                          exact AllReadyN.nil
                        exact AllReadyN.nil
                      exact AllReadyN.nil
                    exact AllReadyN.nil
                  exact AllReadyN.nil
                exact AllReadyN.nil
              refine AllReadyN.cons rfl (fun K hK => ?_) ?_
              · go_simp
                refine hK.out _ _ ?_ (fun hHeld => ?_)
                · (try dsimp only)
                  first
                    | (refine ⟨?_, ?_, ?_, ?_⟩ <;> assumption)
                    | (refine ⟨cell_keep ?_ b0, cell_keep ?_ b1, cell_keep ?_ b2, cell_keep ?_ b3⟩ <;> (go_grown; done))
                    | (refine ⟨cell_keep ?_ z0, cell_keep ?_ z1, cell_keep ?_ z2, cell_keep ?_ z3⟩ <;> (go_grown; done))
                clear hK K
                try (unfold Act.put; dsimp only)
                refine wpAnyN_ready (rs := [0]) (by kernel_rfl) (by simp) ?_
                refine AllReadyN.cons rfl (fun K hK => ?_) ?_
                · go_simp
                  refine hK.out _ _ ?_ (fun hHeld => ?_)
                  · (try dsimp only)
                    first
                      | (refine ⟨?_, ?_, ?_, ?_⟩ <;> assumption)
                      | (refine ⟨cell_keep ?_ b0, cell_keep ?_ b1, cell_keep ?_ b2, cell_keep ?_ b3⟩ <;> (go_grown; done))
                      | (refine ⟨cell_keep ?_ z0, cell_keep ?_ z1, cell_keep ?_ z2, cell_keep ?_ z3⟩ <;> (go_grown; done))
                  clear hK K
                  try (unfold Act.put; dsimp only)
                  refine wpAnyN_ready (rs := [4]) (by kernel_rfl) (by simp) ?_
                  refine AllReadyN.cons rfl (fun K hK => ?_) ?_
                  · refine step_append_waits (by rfl) (by rfl) _ _ (by rfl) wr.heap.size _ 0 [] (by rfl) (own_blk (by first | omega | (simp; done) | (simp; omega)) (by (repeat (first | rw [heap_drew] | rw [heap_push])); simp)) (some ⟨gx, ox, none⟩) j c (es.take j) (by rw [List.length_take, HL.out]; omega) (by rfl) (rdw_take ((H.out.below hB1).below (by go_grown)) j) (by intro h; cases h) (by first | omega | (simp; done) | (simp; omega)) (by omega) ?_
                    intro v7 w7 hown7 hg7
                    have hb7 : Below wr.heap.size wr w7 := Below.grown (show Below wr.heap.size wr _ by go_grown) hg7 (by first | omega | (simp; done) | (simp; omega)) (fun q hq => by simp [Value.ownBlock] at hq; omega)
                    have hk7 := hg7.block
                    have z0 := append_cell hg7 (by go_grown) b0 (by first | (simp [Value.ownBlock]; done) | (simp [Value.ownBlock]; omega))
                    have z1 := append_cell hg7 (by go_grown) b1 (by first | (simp [Value.ownBlock]; done) | (simp [Value.ownBlock]; omega))
                    have z2 := append_cell hg7 (by go_grown) b2 (by first | (simp [Value.ownBlock]; done) | (simp [Value.ownBlock]; omega))
                    have z3 := append_cell hg7 (by go_grown) b3 (by first | (simp [Value.ownBlock]; done) | (simp [Value.ownBlock]; omega))
                    have hz7 := hb7.size
                    have HO7 := Lib.hid hown7
                    have HB7 := Lib.hid hb7
                    have HK7 := Lib.hid hk7
                    clear hown7 hb7 hg7 hk7
                    refine hK.out _ _ ?_ (fun hHeld => ?_)
                    · (try dsimp only)
                      first
                        | (refine ⟨?_, ?_, ?_, ?_⟩ <;> assumption)
                        | (refine ⟨cell_keep ?_ b0, cell_keep ?_ b1, cell_keep ?_ b2, cell_keep ?_ b3⟩ <;> (go_grown; done))
                        | (refine ⟨cell_keep ?_ z0, cell_keep ?_ z1, cell_keep ?_ z2, cell_keep ?_ z3⟩ <;> (go_grown; done))
                    clear hK K
                    try (unfold Act.put; dsimp only)
                    refine wpAnyN_ready (rs := [7]) (by kernel_rfl) (by simp) ?_
                    refine AllReadyN.cons rfl (fun K hK => ?_) ?_
                    · refine step_append_waits (by rfl) (by rfl) _ _ (by rfl) wr.heap.size _ _ _ (by rfl) (own_below HO7.out (by go_grown)) _ 1 1 [⟨x, s, m, true⟩] rfl (by rfl) (rdw_blk (T := 33) (by first | ((repeat (first | rw [heap_drew] | rw [heap_push])); simp; done) | (rw [HK7.out _ (by first | omega | (simp; done) | (simp; omega)) (by simp [Value.ownBlock])]; (repeat (first | rw [heap_drew] | rw [heap_push])); simp; done))) (by intro h; cases h) (by first | omega | (simp; done) | (simp; omega)) (by omega) ?_
                      intro v8 w8 hown8 hg8
                      have hv7 : ∀ q, v7.ownBlock = some q → wr.heap.size ≤ q := fun q hq => (HO7.out.lt q hq).1
                      have hb8 : Below wr.heap.size wr w8 := Below.grown (HB7.out.trans (Below.mono (show Below w7.heap.size w7 _ by go_grown) (by omega))) hg8 (by first | omega | (simp; done) | (simp; omega)) hv7
                      have z0 := append_cell hg8 (by go_grown) z0 (fun e => by have := hv7 _ e; omega)
                      have z1 := append_cell hg8 (by go_grown) z1 (fun e => by have := hv7 _ e; omega)
                      have z2 := append_cell hg8 (by go_grown) z2 (fun e => by have := hv7 _ e; omega)
                      have z3 := append_cell hg8 (by go_grown) z3 (fun e => by have := hv7 _ e; omega)
                      have hz8 := hb8.size
                      have HO8 := Lib.hid hown8
                      have HB8 := Lib.hid hb8
                      clear hown8 hb8 hg8 hv7
                      refine hK.out _ _ ?_ (fun hHeld => ?_)
                      · (try dsimp only)
                        first
                          | (refine ⟨?_, ?_, ?_, ?_⟩ <;> assumption)
                          | (refine ⟨cell_keep ?_ b0, cell_keep ?_ b1, cell_keep ?_ b2, cell_keep ?_ b3⟩ <;> (go_grown; done))
                          | (refine ⟨cell_keep ?_ z0, cell_keep ?_ z1, cell_keep ?_ z2, cell_keep ?_ z3⟩ <;> (go_grown; done))
                      clear hK K
                      try (unfold Act.put; dsimp only)
                      refine wpAnyN_ready (rs := [11]) (by kernel_rfl) (by simp) ?_
                      refine AllReadyN.last rfl rfl (fun K hK => ?_) ?_
                      · refine step_append_waits (by rfl) (by rfl) _ _ (by rfl) wr.heap.size _ _ _ (by rfl) (own_below HO8.out (by go_grown)) Ad (n - j) (c - j) (es.drop j) (by rw [List.length_drop, HL.out]) (by first | (simp [Act.eval]; exact HAD.out _ _ rfl rfl) | (simp [Act.eval, Act.put]; exact HAD.out _ _ rfl rfl)) (HRD.out _ (HB8.out.trans (Below.mono (show Below w8.heap.size w8 _ by go_grown) hz8))) (fun h => absurd h hAdn) (by first | omega | (simp; done) | (simp; omega)) (by omega) ?_
                        intro v9 w9 hown9 hg9
                        refine hK.out _ _ ?_
                        clear hK K
                        try (unfold Act.put; dsimp only)
                        refine wpAnyN_ready (rs := [12]) (by kernel_rfl) (by simp) ?_
                        refine AllReadyN.last rfl rfl (fun K hK => ?_) ?_
                        · go_simp
                          refine hK.out _ _ ?_
                          clear hK K
                          try (unfold Act.put; dsimp only)
                          refine wpAnyN_ready (rs := [13]) (by kernel_rfl) (by simp) ?_
                          refine AllReadyN.last rfl rfl (fun K hK => ?_) ?_
                          · go_simp
                            refine hK.out _ _ ?_
                            clear hK K
                            try (unfold Act.put; dsimp only)
                            refine wpAnyN_done (by kernel_rfl) ?_ _
                            go_wp2
                            all_goals
                              go_returns
                              have hb9 : Below w.heap.size w w9 := Below.grown (hB1.trans ((HB8.out.trans (Below.mono (show Below w8.heap.size w8 _ by go_grown) hz8)).mono hB1.size)) hg9 (by first | omega | (simp; done) | (simp; omega)) (fun q hq => by have := (HO8.out.lt q hq).1; omega)
                              refine ⟨hb9, .inr ⟨HE.out, v9, rfl, ?_⟩⟩
                              rw [HD.out, HAT.out]
                              have hlen : (es.take j ++ [(⟨x, s, m, true⟩ : Wt)] ++ es.drop j).length = 0 + j + 1 + (n - j) := by
                                rw [List.length_append, List.length_append, List.length_take, List.length_drop, HL.out]
                                show min j n + 1 + (n - j) = _
                                omega
                              rw [hlen, flatW_append, flatW_append, flatW_one]
                              exact own_weaken (by simpa [flatW_one] using hown9) (by omega)
                          exact AllReadyN.nil
                        exact AllReadyN.nil
                      exact AllReadyN.nil
                    exact AllReadyN.nil
                  exact AllReadyN.nil
                exact AllReadyN.nil
              exact AllReadyN.nil
            · obtain ⟨gg, off, hAx, hcx⟩ := H.out.below hB1
              obtain ⟨hxe, hgx⟩ := hAx (by rw [HL.out]; omega)
              cases hxe
              obtain ⟨p0, p1, p2, p3⟩ := hcx (j - 1) (by rw [HL.out]; omega)
              have hguard : decide ((0 : Int) < j) = true := decide_eq_true (by omega)
              have hguard2 : decide (0 < j) = true := decide_eq_true hz
              have hjm : (j : Int) - 1 = ((j - 1 : Nat) : Int) := by omega
              have hjm0 : (0 : Int) ≤ ((j - 1 : Nat) : Int) := by omega
              have hjm1 : ((j - 1 : Nat) : Int) < n := by omega
              have hbk : back es j = if (es.getD (j - 1) Wt.none).u then j else back es (j - 1) := by
                obtain ⟨q, rfl⟩ : ∃ q, j = q + 1 := ⟨j - 1, by omega⟩
                rfl
              clear hAx hcx p0 p1 p2
              rcases hup : (es.getD (j - 1) Wt.none).u with _ | _
              · rw [hup] at p3 hbk
                have hnx : dAt es ⟨x, s, m, true⟩ = back es (j - 1) := by rw [hupj, hbk]; rfl
                have HNX := Lib.hid hnx
                clear hnx hbk hupj hat hup
                go_wp2
                go_roundw
                case rel => exact ⟨by trivial, j - 1, by omega, by first | rfl | (rw [hjm]) | go_num, by first | exact HNX.out | (rw [HNX.out, if_pos rfl]) | rw [HNX.out], fun h => by cases h⟩
                case measure => simp [intOf]; omega
              · rw [hup] at p3 hbk
                have hatj : dAt es ⟨x, s, m, true⟩ = j := by rw [hupj, hbk]; rfl
                clear hbk hup
                obtain ⟨Ad, hAd, hAdn, hRd⟩ := slice_at (H.out.below hB1) HL.out hnc j hj
                have HAD := Lib.hid hAd
                have HRD := Lib.hid hRd
                have HAT := Lib.hid hatj
                have hbase : w.heap.size + 1 ≤ wr.heap.size := by omega
                have hjc : (j : Int) ≤ c := by omega
                have hjn : (j : Int) ≤ n := by omega
                have hj0 : (0 : Int) ≤ j := by omega
                clear hAd hRd hatj hat hun hupj
                go_wp2
                refine wp_region_N (S := (fun w' => w'.cell? ⟨w.heap.size, 0, none⟩ = some (.int .i64 x) ∧ w'.cell? ⟨w.heap.size, 1, none⟩ = some (.int .i64 s) ∧ w'.cell? ⟨w.heap.size, 2, none⟩ = some (.int .i64 m) ∧ w'.cell? ⟨w.heap.size, 3, none⟩ = some (.bool true))) (fun i => !(i == 11 || i == 12 || i == 13)) (by kernel_rfl) ?_ (fun hHeld => ?_)
                · (try dsimp only)
                  first
                    | (refine ⟨?_, ?_, ?_, ?_⟩ <;> assumption)
                    | (refine ⟨cell_keep ?_ b0, cell_keep ?_ b1, cell_keep ?_ b2, cell_keep ?_ b3⟩ <;> (go_grown; done))
                    | (refine ⟨cell_keep ?_ z0, cell_keep ?_ z1, cell_keep ?_ z2, cell_keep ?_ z3⟩ <;> (go_grown; done))
                refine wpAnyN_take [3, 4, 7, 11, 12, 13] (i := 1) (v := ?_) rfl (by kernel_rfl) (by kernel_rfl) (by kernel_rfl) (by kernel_rfl) (by kernel_rfl) (fun _ _ _ h => h) (Or.inl ⟨by rfl, ?_⟩) (by assumption) ?_
                rotate_left
                focus
                  intro w hSw
                  (try dsimp only at hSw)
                  go_simp
                  try with_reducible rfl
                try (unfold Act.put; dsimp only)
                refine wpAnyN_take [3, 4, 7, 11, 12, 13] (i := 2) (v := ?_) rfl (by kernel_rfl) (by kernel_rfl) (by kernel_rfl) (by kernel_rfl) (by kernel_rfl) (fun _ _ _ h => h) (Or.inl ⟨by rfl, ?_⟩) (by assumption) ?_
                rotate_left
                focus
                  intro w hSw
                  (try dsimp only at hSw)
                  go_simp
                  try with_reducible rfl
                try (unfold Act.put; dsimp only)
                refine wpAnyN_take [4, 7, 11, 12, 13] (i := 3) (v := ?_) rfl (by kernel_rfl) (by kernel_rfl) (by kernel_rfl) (by kernel_rfl) (by kernel_rfl) (fun _ _ _ h => h) (Or.inl ⟨by rfl, ?_⟩) (by assumption) ?_
                rotate_left
                focus
                  intro w hSw
                  (try dsimp only at hSw)
                  go_simp
                  try with_reducible rfl
                try (unfold Act.put; dsimp only)
                refine wpAnyN_take [6, 7, 11, 12, 13] (i := 5) (v := ?_) rfl (by kernel_rfl) (by kernel_rfl) (by kernel_rfl) (by kernel_rfl) (by kernel_rfl) (fun _ _ _ h => h) (Or.inl ⟨by rfl, ?_⟩) (by assumption) ?_
                rotate_left
                focus
                  intro w hSw
                  (try dsimp only at hSw)
                  go_simp
                  try with_reducible rfl
                try (unfold Act.put; dsimp only)
                refine wpAnyN_take [10, 11, 12, 13] (i := 8) (v := ?_) rfl (by kernel_rfl) (by kernel_rfl) (by kernel_rfl) (by kernel_rfl) (by kernel_rfl) (fun _ _ _ h => h) (Or.inl ⟨by rfl, ?_⟩) (by assumption) ?_
                rotate_left
                focus
                  intro w hSw
                  (try dsimp only at hSw)
                  go_simp
                  try with_reducible rfl
                try (unfold Act.put; dsimp only)
                refine wpAnyN_take [10, 11, 12, 13] (i := 9) (v := ?_) rfl (by kernel_rfl) (by kernel_rfl) (by kernel_rfl) (by kernel_rfl) (by kernel_rfl) (fun _ _ _ h => h) (Or.inl ⟨by rfl, ?_⟩) (by assumption) ?_
                rotate_left
                focus
                  intro w hSw
                  (try dsimp only at hSw)
                  go_simp
                  try with_reducible rfl
                try (unfold Act.put; dsimp only)
                refine wpAnyN_take [11, 12, 13] (i := 10) (v := ?_) rfl (by kernel_rfl) (by kernel_rfl) (by kernel_rfl) (by kernel_rfl) (by kernel_rfl) (fun _ _ _ h => h) (Or.inl ⟨by rfl, ?_⟩) (by assumption) ?_
                rotate_left
                focus
                  intro w hSw
                  (try dsimp only at hSw)
                  go_simp
                  try with_reducible rfl
                try (unfold Act.put; dsimp only)
                refine wpAnyN_ready (rs := [0, 6]) (by kernel_rfl) (by simp) ?_
                refine AllReadyN.cons rfl (fun K hK => ?_) ?_
                · go_simp
                  refine hK.out _ _ ?_ (fun hHeld => ?_)
                  · (try dsimp only)
                    first
                      | (refine ⟨?_, ?_, ?_, ?_⟩ <;> assumption)
                      | (refine ⟨cell_keep ?_ b0, cell_keep ?_ b1, cell_keep ?_ b2, cell_keep ?_ b3⟩ <;> (go_grown; done))
                      | (refine ⟨cell_keep ?_ z0, cell_keep ?_ z1, cell_keep ?_ z2, cell_keep ?_ z3⟩ <;> (go_grown; done))
                  clear hK K
                  try (unfold Act.put; dsimp only)
                  refine wpAnyN_ready (rs := [4, 6]) (by kernel_rfl) (by simp) ?_
                  refine AllReadyN.cons rfl (fun K hK => ?_) ?_
                  · refine step_append_waits (by rfl) (by rfl) _ _ (by rfl) wr.heap.size _ 0 [] (by rfl) (own_blk (by first | omega | (simp; done) | (simp; omega)) (by (repeat (first | rw [heap_drew] | rw [heap_push])); simp)) (some ⟨gx, ox, none⟩) j c (es.take j) (by rw [List.length_take, HL.out]; omega) (by rfl) (rdw_take ((H.out.below hB1).below (by go_grown)) j) (by intro h; cases h) (by first | omega | (simp; done) | (simp; omega)) (by omega) ?_
                    intro v7 w7 hown7 hg7
                    have hb7 : Below wr.heap.size wr w7 := Below.grown (show Below wr.heap.size wr _ by go_grown) hg7 (by first | omega | (simp; done) | (simp; omega)) (fun q hq => by simp [Value.ownBlock] at hq; omega)
                    have hk7 := hg7.block
                    have z0 := append_cell hg7 (by go_grown) b0 (by first | (simp [Value.ownBlock]; done) | (simp [Value.ownBlock]; omega))
                    have z1 := append_cell hg7 (by go_grown) b1 (by first | (simp [Value.ownBlock]; done) | (simp [Value.ownBlock]; omega))
                    have z2 := append_cell hg7 (by go_grown) b2 (by first | (simp [Value.ownBlock]; done) | (simp [Value.ownBlock]; omega))
                    have z3 := append_cell hg7 (by go_grown) b3 (by first | (simp [Value.ownBlock]; done) | (simp [Value.ownBlock]; omega))
                    have hz7 := hb7.size
                    have HO7 := Lib.hid hown7
                    have HB7 := Lib.hid hb7
                    have HK7 := Lib.hid hk7
                    clear hown7 hb7 hg7 hk7
                    refine hK.out _ _ ?_ (fun hHeld => ?_)
                    · (try dsimp only)
                      first
                        | (refine ⟨?_, ?_, ?_, ?_⟩ <;> assumption)
                        | (refine ⟨cell_keep ?_ b0, cell_keep ?_ b1, cell_keep ?_ b2, cell_keep ?_ b3⟩ <;> (go_grown; done))
                        | (refine ⟨cell_keep ?_ z0, cell_keep ?_ z1, cell_keep ?_ z2, cell_keep ?_ z3⟩ <;> (go_grown; done))
                    clear hK K
                    try (unfold Act.put; dsimp only)
                    refine wpAnyN_ready (rs := [6]) (by kernel_rfl) (by simp) ?_
                    refine AllReadyN.cons rfl (fun K hK => ?_) ?_
                    · go_simp
                      refine hK.out _ _ ?_ (fun hHeld => ?_)
                      · (try dsimp only)
                        first
                          | (refine ⟨?_, ?_, ?_, ?_⟩ <;> assumption)
                          | (refine ⟨cell_keep ?_ b0, cell_keep ?_ b1, cell_keep ?_ b2, cell_keep ?_ b3⟩ <;> (go_grown; done))
                          | (refine ⟨cell_keep ?_ z0, cell_keep ?_ z1, cell_keep ?_ z2, cell_keep ?_ z3⟩ <;> (go_grown; done))
                      clear hK K
                      try (unfold Act.put; dsimp only)
                      refine wpAnyN_ready (rs := [7]) (by kernel_rfl) (by simp) ?_
                      refine AllReadyN.cons rfl (fun K hK => ?_) ?_
                      · refine step_append_waits (by rfl) (by rfl) _ _ (by rfl) wr.heap.size _ _ _ (by rfl) (own_below HO7.out (by go_grown)) _ 1 1 [⟨x, s, m, true⟩] rfl (by rfl) (rdw_blk (T := 33) (by first | ((repeat (first | rw [heap_drew] | rw [heap_push])); simp; done) | (rw [HK7.out _ (by first | omega | (simp; done) | (simp; omega)) (by simp [Value.ownBlock])]; (repeat (first | rw [heap_drew] | rw [heap_push])); simp; done))) (by intro h; cases h) (by first | omega | (simp; done) | (simp; omega)) (by omega) ?_
                        intro v8 w8 hown8 hg8
                        have hv7 : ∀ q, v7.ownBlock = some q → wr.heap.size ≤ q := fun q hq => (HO7.out.lt q hq).1
                        have hb8 : Below wr.heap.size wr w8 := Below.grown (HB7.out.trans (Below.mono (show Below w7.heap.size w7 _ by go_grown) (by omega))) hg8 (by first | omega | (simp; done) | (simp; omega)) hv7
                        have z0 := append_cell hg8 (by go_grown) z0 (fun e => by have := hv7 _ e; omega)
                        have z1 := append_cell hg8 (by go_grown) z1 (fun e => by have := hv7 _ e; omega)
                        have z2 := append_cell hg8 (by go_grown) z2 (fun e => by have := hv7 _ e; omega)
                        have z3 := append_cell hg8 (by go_grown) z3 (fun e => by have := hv7 _ e; omega)
                        have hz8 := hb8.size
                        have HO8 := Lib.hid hown8
                        have HB8 := Lib.hid hb8
                        clear hown8 hb8 hg8 hv7
                        refine hK.out _ _ ?_ (fun hHeld => ?_)
                        · (try dsimp only)
                          first
                            | (refine ⟨?_, ?_, ?_, ?_⟩ <;> assumption)
                            | (refine ⟨cell_keep ?_ b0, cell_keep ?_ b1, cell_keep ?_ b2, cell_keep ?_ b3⟩ <;> (go_grown; done))
                            | (refine ⟨cell_keep ?_ z0, cell_keep ?_ z1, cell_keep ?_ z2, cell_keep ?_ z3⟩ <;> (go_grown; done))
                        clear hK K
                        try (unfold Act.put; dsimp only)
                        refine wpAnyN_ready (rs := [11]) (by kernel_rfl) (by simp) ?_
                        refine AllReadyN.last rfl rfl (fun K hK => ?_) ?_
                        · refine step_append_waits (by rfl) (by rfl) _ _ (by rfl) wr.heap.size _ _ _ (by rfl) (own_below HO8.out (by go_grown)) Ad (n - j) (c - j) (es.drop j) (by rw [List.length_drop, HL.out]) (by first | (simp [Act.eval]; exact HAD.out _ _ rfl rfl) | (simp [Act.eval, Act.put]; exact HAD.out _ _ rfl rfl)) (HRD.out _ (HB8.out.trans (Below.mono (show Below w8.heap.size w8 _ by go_grown) hz8))) (fun h => absurd h hAdn) (by first | omega | (simp; done) | (simp; omega)) (by omega) ?_
                          intro v9 w9 hown9 hg9
                          refine hK.out _ _ ?_
                          clear hK K
                          try (unfold Act.put; dsimp only)
                          refine wpAnyN_ready (rs := [12]) (by kernel_rfl) (by simp) ?_
                          refine AllReadyN.last rfl rfl (fun K hK => ?_) ?_
                          · go_simp
                            refine hK.out _ _ ?_
                            clear hK K
                            try (unfold Act.put; dsimp only)
                            refine wpAnyN_ready (rs := [13]) (by kernel_rfl) (by simp) ?_
                            refine AllReadyN.last rfl rfl (fun K hK => ?_) ?_
                            · go_simp
                              refine hK.out _ _ ?_
                              clear hK K
                              try (unfold Act.put; dsimp only)
                              refine wpAnyN_done (by kernel_rfl) ?_ _
                              go_wp2
                              all_goals
                                go_returns
                                have hb9 : Below w.heap.size w w9 := Below.grown (hB1.trans ((HB8.out.trans (Below.mono (show Below w8.heap.size w8 _ by go_grown) hz8)).mono hB1.size)) hg9 (by first | omega | (simp; done) | (simp; omega)) (fun q hq => by have := (HO8.out.lt q hq).1; omega)
                                refine ⟨hb9, .inr ⟨HE.out, v9, rfl, ?_⟩⟩
                                rw [HD.out, HAT.out]
                                have hlen : (es.take j ++ [(⟨x, s, m, true⟩ : Wt)] ++ es.drop j).length = 0 + j + 1 + (n - j) := by
                                  rw [List.length_append, List.length_append, List.length_take, List.length_drop, HL.out]
                                  show min j n + 1 + (n - j) = _
                                  omega
                                rw [hlen, flatW_append, flatW_append, flatW_one]
                                exact own_weaken (by simpa [flatW_one] using hown9) (by omega)
                            exact AllReadyN.nil
                          exact AllReadyN.nil
                        exact AllReadyN.nil
                      exact AllReadyN.nil
                    exact AllReadyN.nil
                  refine AllReadyN.cons rfl (fun K hK => ?_) ?_
                  · go_simp
                    refine hK.out _ _ ?_ (fun hHeld => ?_)
                    · (try dsimp only)
                      first
                        | (refine ⟨?_, ?_, ?_, ?_⟩ <;> assumption)
                        | (refine ⟨cell_keep ?_ b0, cell_keep ?_ b1, cell_keep ?_ b2, cell_keep ?_ b3⟩ <;> (go_grown; done))
                        | (refine ⟨cell_keep ?_ z0, cell_keep ?_ z1, cell_keep ?_ z2, cell_keep ?_ z3⟩ <;> (go_grown; done))
                    clear hK K
                    try (unfold Act.put; dsimp only)
                    refine wpAnyN_ready (rs := [4]) (by kernel_rfl) (by simp) ?_
                    refine AllReadyN.cons rfl (fun K hK => ?_) ?_
                    · refine step_append_waits (by rfl) (by rfl) _ _ (by rfl) wr.heap.size _ 0 [] (by rfl) (own_blk (by first | omega | (simp; done) | (simp; omega)) (by (repeat (first | rw [heap_drew] | rw [heap_push])); simp)) (some ⟨gx, ox, none⟩) j c (es.take j) (by rw [List.length_take, HL.out]; omega) (by rfl) (rdw_take ((H.out.below hB1).below (by go_grown)) j) (by intro h; cases h) (by first | omega | (simp; done) | (simp; omega)) (by omega) ?_
                      intro v7 w7 hown7 hg7
                      have hb7 : Below wr.heap.size wr w7 := Below.grown (show Below wr.heap.size wr _ by go_grown) hg7 (by first | omega | (simp; done) | (simp; omega)) (fun q hq => by simp [Value.ownBlock] at hq; omega)
                      have hk7 := hg7.block
                      have z0 := append_cell hg7 (by go_grown) b0 (by first | (simp [Value.ownBlock]; done) | (simp [Value.ownBlock]; omega))
                      have z1 := append_cell hg7 (by go_grown) b1 (by first | (simp [Value.ownBlock]; done) | (simp [Value.ownBlock]; omega))
                      have z2 := append_cell hg7 (by go_grown) b2 (by first | (simp [Value.ownBlock]; done) | (simp [Value.ownBlock]; omega))
                      have z3 := append_cell hg7 (by go_grown) b3 (by first | (simp [Value.ownBlock]; done) | (simp [Value.ownBlock]; omega))
                      have hz7 := hb7.size
                      have HO7 := Lib.hid hown7
                      have HB7 := Lib.hid hb7
                      have HK7 := Lib.hid hk7
                      clear hown7 hb7 hg7 hk7
                      refine hK.out _ _ ?_ (fun hHeld => ?_)
                      · (try dsimp only)
                        first
                          | (refine ⟨?_, ?_, ?_, ?_⟩ <;> assumption)
                          | (refine ⟨cell_keep ?_ b0, cell_keep ?_ b1, cell_keep ?_ b2, cell_keep ?_ b3⟩ <;> (go_grown; done))
                          | (refine ⟨cell_keep ?_ z0, cell_keep ?_ z1, cell_keep ?_ z2, cell_keep ?_ z3⟩ <;> (go_grown; done))
                      clear hK K
                      try (unfold Act.put; dsimp only)
                      refine wpAnyN_ready (rs := [7]) (by kernel_rfl) (by simp) ?_
                      refine AllReadyN.cons rfl (fun K hK => ?_) ?_
                      · refine step_append_waits (by rfl) (by rfl) _ _ (by rfl) wr.heap.size _ _ _ (by rfl) (own_below HO7.out (by go_grown)) _ 1 1 [⟨x, s, m, true⟩] rfl (by rfl) (rdw_blk (T := 33) (by first | ((repeat (first | rw [heap_drew] | rw [heap_push])); simp; done) | (rw [HK7.out _ (by first | omega | (simp; done) | (simp; omega)) (by simp [Value.ownBlock])]; (repeat (first | rw [heap_drew] | rw [heap_push])); simp; done))) (by intro h; cases h) (by first | omega | (simp; done) | (simp; omega)) (by omega) ?_
                        intro v8 w8 hown8 hg8
                        have hv7 : ∀ q, v7.ownBlock = some q → wr.heap.size ≤ q := fun q hq => (HO7.out.lt q hq).1
                        have hb8 : Below wr.heap.size wr w8 := Below.grown (HB7.out.trans (Below.mono (show Below w7.heap.size w7 _ by go_grown) (by omega))) hg8 (by first | omega | (simp; done) | (simp; omega)) hv7
                        have z0 := append_cell hg8 (by go_grown) z0 (fun e => by have := hv7 _ e; omega)
                        have z1 := append_cell hg8 (by go_grown) z1 (fun e => by have := hv7 _ e; omega)
                        have z2 := append_cell hg8 (by go_grown) z2 (fun e => by have := hv7 _ e; omega)
                        have z3 := append_cell hg8 (by go_grown) z3 (fun e => by have := hv7 _ e; omega)
                        have hz8 := hb8.size
                        have HO8 := Lib.hid hown8
                        have HB8 := Lib.hid hb8
                        clear hown8 hb8 hg8 hv7
                        refine hK.out _ _ ?_ (fun hHeld => ?_)
                        · (try dsimp only)
                          first
                            | (refine ⟨?_, ?_, ?_, ?_⟩ <;> assumption)
                            | (refine ⟨cell_keep ?_ b0, cell_keep ?_ b1, cell_keep ?_ b2, cell_keep ?_ b3⟩ <;> (go_grown; done))
                            | (refine ⟨cell_keep ?_ z0, cell_keep ?_ z1, cell_keep ?_ z2, cell_keep ?_ z3⟩ <;> (go_grown; done))
                        clear hK K
                        try (unfold Act.put; dsimp only)
                        refine wpAnyN_ready (rs := [11]) (by kernel_rfl) (by simp) ?_
                        refine AllReadyN.last rfl rfl (fun K hK => ?_) ?_
                        · refine step_append_waits (by rfl) (by rfl) _ _ (by rfl) wr.heap.size _ _ _ (by rfl) (own_below HO8.out (by go_grown)) Ad (n - j) (c - j) (es.drop j) (by rw [List.length_drop, HL.out]) (by first | (simp [Act.eval]; exact HAD.out _ _ rfl rfl) | (simp [Act.eval, Act.put]; exact HAD.out _ _ rfl rfl)) (HRD.out _ (HB8.out.trans (Below.mono (show Below w8.heap.size w8 _ by go_grown) hz8))) (fun h => absurd h hAdn) (by first | omega | (simp; done) | (simp; omega)) (by omega) ?_
                          intro v9 w9 hown9 hg9
                          refine hK.out _ _ ?_
                          clear hK K
                          try (unfold Act.put; dsimp only)
                          refine wpAnyN_ready (rs := [12]) (by kernel_rfl) (by simp) ?_
                          refine AllReadyN.last rfl rfl (fun K hK => ?_) ?_
                          · go_simp
                            refine hK.out _ _ ?_
                            clear hK K
                            try (unfold Act.put; dsimp only)
                            refine wpAnyN_ready (rs := [13]) (by kernel_rfl) (by simp) ?_
                            refine AllReadyN.last rfl rfl (fun K hK => ?_) ?_
                            · go_simp
                              refine hK.out _ _ ?_
                              clear hK K
                              try (unfold Act.put; dsimp only)
                              refine wpAnyN_done (by kernel_rfl) ?_ _
                              go_wp2
                              all_goals
                                go_returns
                                have hb9 : Below w.heap.size w w9 := Below.grown (hB1.trans ((HB8.out.trans (Below.mono (show Below w8.heap.size w8 _ by go_grown) hz8)).mono hB1.size)) hg9 (by first | omega | (simp; done) | (simp; omega)) (fun q hq => by have := (HO8.out.lt q hq).1; omega)
                                refine ⟨hb9, .inr ⟨HE.out, v9, rfl, ?_⟩⟩
                                rw [HD.out, HAT.out]
                                have hlen : (es.take j ++ [(⟨x, s, m, true⟩ : Wt)] ++ es.drop j).length = 0 + j + 1 + (n - j) := by
                                  rw [List.length_append, List.length_append, List.length_take, List.length_drop, HL.out]
                                  show min j n + 1 + (n - j) = _
                                  omega
                                rw [hlen, flatW_append, flatW_append, flatW_one]
                                exact own_weaken (by simpa [flatW_one] using hown9) (by omega)
                            exact AllReadyN.nil
                          exact AllReadyN.nil
                        exact AllReadyN.nil
                      exact AllReadyN.nil
                    exact AllReadyN.nil
                  exact AllReadyN.nil
                refine AllReadyN.cons rfl (fun K hK => ?_) ?_
                · go_simp
                  refine hK.out _ _ ?_ (fun hHeld => ?_)
                  · (try dsimp only)
                    first
                      | (refine ⟨?_, ?_, ?_, ?_⟩ <;> assumption)
                      | (refine ⟨cell_keep ?_ b0, cell_keep ?_ b1, cell_keep ?_ b2, cell_keep ?_ b3⟩ <;> (go_grown; done))
                      | (refine ⟨cell_keep ?_ z0, cell_keep ?_ z1, cell_keep ?_ z2, cell_keep ?_ z3⟩ <;> (go_grown; done))
                  clear hK K
                  try (unfold Act.put; dsimp only)
                  refine wpAnyN_ready (rs := [0]) (by kernel_rfl) (by simp) ?_
                  refine AllReadyN.cons rfl (fun K hK => ?_) ?_
                  · go_simp
                    refine hK.out _ _ ?_ (fun hHeld => ?_)
                    · (try dsimp only)
                      first
                        | (refine ⟨?_, ?_, ?_, ?_⟩ <;> assumption)
                        | (refine ⟨cell_keep ?_ b0, cell_keep ?_ b1, cell_keep ?_ b2, cell_keep ?_ b3⟩ <;> (go_grown; done))
                        | (refine ⟨cell_keep ?_ z0, cell_keep ?_ z1, cell_keep ?_ z2, cell_keep ?_ z3⟩ <;> (go_grown; done))
                    clear hK K
                    try (unfold Act.put; dsimp only)
                    refine wpAnyN_ready (rs := [4]) (by kernel_rfl) (by simp) ?_
                    refine AllReadyN.cons rfl (fun K hK => ?_) ?_
                    · refine step_append_waits (by rfl) (by rfl) _ _ (by rfl) wr.heap.size _ 0 [] (by rfl) (own_blk (by first | omega | (simp; done) | (simp; omega)) (by (repeat (first | rw [heap_drew] | rw [heap_push])); simp)) (some ⟨gx, ox, none⟩) j c (es.take j) (by rw [List.length_take, HL.out]; omega) (by rfl) (rdw_take ((H.out.below hB1).below (by go_grown)) j) (by intro h; cases h) (by first | omega | (simp; done) | (simp; omega)) (by omega) ?_
                      intro v7 w7 hown7 hg7
                      have hb7 : Below wr.heap.size wr w7 := Below.grown (show Below wr.heap.size wr _ by go_grown) hg7 (by first | omega | (simp; done) | (simp; omega)) (fun q hq => by simp [Value.ownBlock] at hq; omega)
                      have hk7 := hg7.block
                      have z0 := append_cell hg7 (by go_grown) b0 (by first | (simp [Value.ownBlock]; done) | (simp [Value.ownBlock]; omega))
                      have z1 := append_cell hg7 (by go_grown) b1 (by first | (simp [Value.ownBlock]; done) | (simp [Value.ownBlock]; omega))
                      have z2 := append_cell hg7 (by go_grown) b2 (by first | (simp [Value.ownBlock]; done) | (simp [Value.ownBlock]; omega))
                      have z3 := append_cell hg7 (by go_grown) b3 (by first | (simp [Value.ownBlock]; done) | (simp [Value.ownBlock]; omega))
                      have hz7 := hb7.size
                      have HO7 := Lib.hid hown7
                      have HB7 := Lib.hid hb7
                      have HK7 := Lib.hid hk7
                      clear hown7 hb7 hg7 hk7
                      refine hK.out _ _ ?_ (fun hHeld => ?_)
                      · (try dsimp only)
                        first
                          | (refine ⟨?_, ?_, ?_, ?_⟩ <;> assumption)
                          | (refine ⟨cell_keep ?_ b0, cell_keep ?_ b1, cell_keep ?_ b2, cell_keep ?_ b3⟩ <;> (go_grown; done))
                          | (refine ⟨cell_keep ?_ z0, cell_keep ?_ z1, cell_keep ?_ z2, cell_keep ?_ z3⟩ <;> (go_grown; done))
                      clear hK K
                      try (unfold Act.put; dsimp only)
                      refine wpAnyN_ready (rs := [7]) (by kernel_rfl) (by simp) ?_
                      refine AllReadyN.cons rfl (fun K hK => ?_) ?_
                      · refine step_append_waits (by rfl) (by rfl) _ _ (by rfl) wr.heap.size _ _ _ (by rfl) (own_below HO7.out (by go_grown)) _ 1 1 [⟨x, s, m, true⟩] rfl (by rfl) (rdw_blk (T := 33) (by first | ((repeat (first | rw [heap_drew] | rw [heap_push])); simp; done) | (rw [HK7.out _ (by first | omega | (simp; done) | (simp; omega)) (by simp [Value.ownBlock])]; (repeat (first | rw [heap_drew] | rw [heap_push])); simp; done))) (by intro h; cases h) (by first | omega | (simp; done) | (simp; omega)) (by omega) ?_
                        intro v8 w8 hown8 hg8
                        have hv7 : ∀ q, v7.ownBlock = some q → wr.heap.size ≤ q := fun q hq => (HO7.out.lt q hq).1
                        have hb8 : Below wr.heap.size wr w8 := Below.grown (HB7.out.trans (Below.mono (show Below w7.heap.size w7 _ by go_grown) (by omega))) hg8 (by first | omega | (simp; done) | (simp; omega)) hv7
                        have z0 := append_cell hg8 (by go_grown) z0 (fun e => by have := hv7 _ e; omega)
                        have z1 := append_cell hg8 (by go_grown) z1 (fun e => by have := hv7 _ e; omega)
                        have z2 := append_cell hg8 (by go_grown) z2 (fun e => by have := hv7 _ e; omega)
                        have z3 := append_cell hg8 (by go_grown) z3 (fun e => by have := hv7 _ e; omega)
                        have hz8 := hb8.size
                        have HO8 := Lib.hid hown8
                        have HB8 := Lib.hid hb8
                        clear hown8 hb8 hg8 hv7
                        refine hK.out _ _ ?_ (fun hHeld => ?_)
                        · (try dsimp only)
                          first
                            | (refine ⟨?_, ?_, ?_, ?_⟩ <;> assumption)
                            | (refine ⟨cell_keep ?_ b0, cell_keep ?_ b1, cell_keep ?_ b2, cell_keep ?_ b3⟩ <;> (go_grown; done))
                            | (refine ⟨cell_keep ?_ z0, cell_keep ?_ z1, cell_keep ?_ z2, cell_keep ?_ z3⟩ <;> (go_grown; done))
                        clear hK K
                        try (unfold Act.put; dsimp only)
                        refine wpAnyN_ready (rs := [11]) (by kernel_rfl) (by simp) ?_
                        refine AllReadyN.last rfl rfl (fun K hK => ?_) ?_
                        · refine step_append_waits (by rfl) (by rfl) _ _ (by rfl) wr.heap.size _ _ _ (by rfl) (own_below HO8.out (by go_grown)) Ad (n - j) (c - j) (es.drop j) (by rw [List.length_drop, HL.out]) (by first | (simp [Act.eval]; exact HAD.out _ _ rfl rfl) | (simp [Act.eval, Act.put]; exact HAD.out _ _ rfl rfl)) (HRD.out _ (HB8.out.trans (Below.mono (show Below w8.heap.size w8 _ by go_grown) hz8))) (fun h => absurd h hAdn) (by first | omega | (simp; done) | (simp; omega)) (by omega) ?_
                          intro v9 w9 hown9 hg9
                          refine hK.out _ _ ?_
                          clear hK K
                          try (unfold Act.put; dsimp only)
                          refine wpAnyN_ready (rs := [12]) (by kernel_rfl) (by simp) ?_
                          refine AllReadyN.last rfl rfl (fun K hK => ?_) ?_
                          · go_simp
                            refine hK.out _ _ ?_
                            clear hK K
                            try (unfold Act.put; dsimp only)
                            refine wpAnyN_ready (rs := [13]) (by kernel_rfl) (by simp) ?_
                            refine AllReadyN.last rfl rfl (fun K hK => ?_) ?_
                            · go_simp
                              refine hK.out _ _ ?_
                              clear hK K
                              try (unfold Act.put; dsimp only)
                              refine wpAnyN_done (by kernel_rfl) ?_ _
                              go_wp2
                              all_goals
                                go_returns
                                have hb9 : Below w.heap.size w w9 := Below.grown (hB1.trans ((HB8.out.trans (Below.mono (show Below w8.heap.size w8 _ by go_grown) hz8)).mono hB1.size)) hg9 (by first | omega | (simp; done) | (simp; omega)) (fun q hq => by have := (HO8.out.lt q hq).1; omega)
                                refine ⟨hb9, .inr ⟨HE.out, v9, rfl, ?_⟩⟩
                                rw [HD.out, HAT.out]
                                have hlen : (es.take j ++ [(⟨x, s, m, true⟩ : Wt)] ++ es.drop j).length = 0 + j + 1 + (n - j) := by
                                  rw [List.length_append, List.length_append, List.length_take, List.length_drop, HL.out]
                                  show min j n + 1 + (n - j) = _
                                  omega
                                rw [hlen, flatW_append, flatW_append, flatW_one]
                                exact own_weaken (by simpa [flatW_one] using hown9) (by omega)
                            exact AllReadyN.nil
                          exact AllReadyN.nil
                        exact AllReadyN.nil
                      exact AllReadyN.nil
                    exact AllReadyN.nil
                  exact AllReadyN.nil
                exact AllReadyN.nil
end Go.Proofs.Ytpbgdldaojpjkaa

/-
  catchboltlaw02.ResOrder: any resources come in the document's order, all of them, and of two that are unlike just one stands ahead. The conditions: the listed variables; what lies in the slice.
-/
import Derived.Test.YtonphamahnagfaaDoorSortX
import Derived.Test.YtonphamahnagfaaDoorResA
import Derived.Test.YtonphamahnagfaaDoorNum
import Derived.Deep.QuietTactic
import Derived.BigQuiet
namespace Go.Proofs.YtonphamahnagfaaDoor
open Go.ChangeShapes Go.WideShapes Go.ChangeAt Go.RowKit
set_option linter.unusedVariables false
set_option linter.unusedSimpArgs false

/-- stands a resource ahead of another one? -/
def ltB (x y : R2) : Bool := decide (x.1 < y.1 ∨ x.1 = y.1 ∧ x.2 < y.2)
theorem own_at_none {w : World} {g B sz : Nat} {T : TypeId} (h : w.heap[g]? = some (.cells #[] T (0, 0))) (hB : B ≤ g) : w.ownsRow B T sz (.slice (some ⟨g, 0, none⟩) 0 0) 0 [] :=
  ⟨by simp, .inr ⟨g, 0, #[], rfl, hB, h, Nat.le_refl _, Nat.zero_le _, by simp, by simp⟩⟩
theorem run_append_ress (B : Nat) (v : Value) (k : Nat) (xs : List R2) (w : World) (hown : w.ownsRow B 24 2 v k (flatR xs)) (A : Option Addr) (n c n0 : Nat) (bs : List R2) (hl : bs.length = n) (h : RdR0 n0 w A bs) (hB : B ≤ w.heap.size) (hk : k + n ≤ 1000000) :
    ∃ v' w', (Builtin.append_ #[45, 45] 45 #[v, .slice A n c]).run Tryd.prog w = .ok v' w' ∧ w'.ownsRow B 24 2 v' (k + n) (flatR (xs ++ bs)) ∧ w.grownBy w' v.ownBlock := by
  obtain ⟨i0, hi0, hz0, hz1, hz2⟩ := info_parts res_info
  rw [flatR_append]
  cases A with
  | none =>
    obtain ⟨b, off, hA, hc⟩ := h
    have hn : n = 0 := by
      rcases Nat.eq_zero_or_pos n with h | h
      · exact h
      · cases (hA (by omega)).1
    subst hn
    have hb : bs = [] := List.eq_nil_of_length_eq_zero hl
    subst hb
    refine ⟨v, w, ?_, by simpa [flatR] using hown, World.grownBy.refl w _⟩
    rcases hown.2 with ⟨rfl, rfl⟩ | ⟨g, cap, cur, rfl, _, _, hnc, _⟩
    · simp [Builtin.append_, run_underlying Tryd.underlying45, sizeOf, typeInfo, hi0, Builtin.lenOf, Builtin.firstCells]
    · simp [Builtin.append_, run_underlying Tryd.underlying45, sizeOf, typeInfo, hi0, Builtin.lenOf, Builtin.firstCells, hnc, storeCells]
  | some ad =>
    obtain ⟨b, off, hA, hc⟩ := h
    obtain ⟨v', w', hrun, h2, h3, _⟩ := run_append_own (P := Tryd.prog) w B 45 45 24 i0 _ 2 16 Tryd.underlying45 hi0 hz0 hz1 hz2 rfl (by decide) v k (flatR xs) hown ad n c (flatR bs) (by rw [flatR_length, hl, Nat.mul_comm])
      (fun j u hu => by
        have hj : j < 2 * n := by
          rcases Nat.lt_or_ge j (flatR bs).length with h | h
          · rw [flatR_length, hl] at h; exact h
          · rw [List.getElem?_eq_none h] at hu; cases hu
        have hq : j / 2 < bs.length := by omega
        have := (hA (by omega)).1
        cases this
        have e : (⟨b, off, none⟩ : Addr).add j = ⟨b, off + j, none⟩ := by unfold Addr.add; by_cases h : j = 0 <;> simp [h]
        have hg := flatR_get bs (j / 2) (j % 2) hq (by omega)
        rw [show j / 2 * 2 + j % 2 = j from by omega, hu] at hg
        obtain ⟨c0, c1⟩ := hc (j / 2) hq
        rw [e]
        have h4 : j % 2 = 0 ∨ j % 2 = 1 := by omega
        rcases h4 with h4 | h4 <;> rw [h4] at hg <;> rw [hg]
        · rw [show off + j = off + j / 2 * 2 from by omega, c0]; rfl
        · rw [show off + j = off + j / 2 * 2 + 1 from by omega, c1]; rfl)
      (by intro u hu; obtain ⟨x, hx, hu⟩ := List.mem_flatten.1 hu; obtain ⟨y, _, rfl⟩ := List.mem_map.1 hx; exact encR_one y u hu) (by unfold maxLen; omega) (by omega) hB
    exact ⟨v', w', hrun, h2, h3⟩
theorem wpList_append_ress {ops : Array Oper} {rest : List Oper} {o : Oper} {a : Act} {Q : Exit → Act → World → Prop} {w : World} (hgd : o.guard = none) (s x : Operand)
    (ho : o.op = .call { callee := .builtin .append, args := #[s, x], argTypes := #[45, 45] }) (hty : o.type = 45)
    (B : Nat) (v : Value) (k : Nat) (xs : List R2) (hs : a.eval s = v) (hown : w.ownsRow B 24 2 v k (flatR xs)) (A : Option Addr) (n c n0 : Nat) (bs : List R2) (hl : bs.length = n) (hx : a.eval x = .slice A n c) (h : RdR0 n0 w A bs) (hB : B ≤ w.heap.size) (hk : k + n ≤ 1000000)
    (hc : ∀ v' w', w'.ownsRow B 24 2 v' (k + n) (flatR (xs ++ bs)) → w.grownBy w' v.ownBlock → wpList Tryd.prog ops Q rest (a.put o.dst v') w') : wpList Tryd.prog ops Q (o :: rest) a w := by
  refine wpList_plain hgd fun K hK => ?_
  obtain ⟨v', w', hrun, h2, h3⟩ := run_append_ress B v k xs w hown A n c n0 bs hl h hB hk
  unfold Oper.wp execOp
  simp only [ho, hty, resolve, invoke, builtin, Sem.run_bind, Sem.run_pure, Result.andThen_ok, List.map_toArray, List.map_cons, List.map_nil, hs, hx, hrun]
  exact hK _ _ (hc v' w' h2 h3)
theorem res_eq {a b : R2} {D : Bool} (h : D = true ↔ a = b) (W : World) : (binOp .eql 24 (.agg #[.int .i64 a.1, .int .i64 a.2]) (.agg #[.int .i64 b.1, .int .i64 b.2])).run Tryd.prog W = .ok (.bool D) W := by
  obtain ⟨a1, a2⟩ := a
  obtain ⟨b1, b2⟩ := b
  rw [Prod.mk.injEq] at h
  simp [go_sem]
  cases D <;> simp at h ⊢ <;> (repeat' split) <;> simp_all
theorem res_ne {a b : R2} {D : Bool} (h : D = true ↔ a = b) (W : World) : (binOp .neq 24 (.agg #[.int .i64 a.1, .int .i64 a.2]) (.agg #[.int .i64 b.1, .int .i64 b.2])).run Tryd.prog W = .ok (.bool (!D)) W := by
  obtain ⟨a1, a2⟩ := a
  obtain ⟨b1, b2⟩ := b
  rw [Prod.mk.injEq] at h
  simp [go_sem]
  cases D <;> simp at h ⊢ <;> (repeat' split) <;> simp_all
theorem rless_any (x1 x2 y1 y2 : Int) (w : World) :
    Calls Tryd.prog 22 #[.agg #[.int .i64 x1, .int .i64 x2], .agg #[.int .i64 y1, .int .i64 y2]] w fun e w' => e = .returned (.bool (ltB (x1, x2) (y1, y2))) ∧ Below w.heap.size w w' := by
  by_cases h : x1 = y1
  · subst h
    have hr : ltB (x1, x2) (x1, y2) = decide (x2 < y2) := by unfold ltB; simp
    rw [hr]
    go_enter Tryd.func22, Tryd.ntmps22
    go_wp2
    go_ret
    exact ⟨rfl, by go_grown⟩
  · have hb : (x1 == y1) = false := by simp [h]
    have hr : ltB (x1, x2) (y1, y2) = decide (x1 < y1) := by unfold ltB; simp [h]
    rw [hr]
    go_enter Tryd.func22, Tryd.ntmps22
    go_wp2
    · go_ret
      exact ⟨rfl, by go_grown⟩
    all_goals (exfalso; simp_all)
theorem less_any (x1 x2 y1 y2 : Int) (w : World) :
    Calls Tryd.prog 21 #[.agg #[.int .i64 x1, .int .i64 x2], .agg #[.int .i64 y1, .int .i64 y2]] w fun e w' => e = .returned (.bool (ltB (x1, x2) (y1, y2))) ∧ Below w.heap.size w w' := by
  by_cases h : x1 < y1
  · have hr : ltB (x1, x2) (y1, y2) = true := by unfold ltB; simp [h]
    rw [hr]
    go_enter Tryd.func21, Tryd.ntmps21
    go_wp2
    go_ret
    exact ⟨rfl, by go_grown⟩
  · by_cases h2 : x1 = y1
    · subst h2
      have hr : ltB (x1, x2) (x1, y2) = decide (x2 < y2) := by unfold ltB; simp
      rw [hr]
      go_enter Tryd.func21, Tryd.ntmps21
      go_wp2
      go_ret
      exact ⟨rfl, by go_grown⟩
    · have hr : ltB (x1, x2) (y1, y2) = false := by unfold ltB; simp [h, h2]
      have hb : (x1 == y1) = false := by simp [h2]
      rw [hr]
      go_enter Tryd.func21, Tryd.ntmps21
      go_wp2
      go_ret
      exact ⟨rfl, by go_grown⟩
theorem keepS {wa w w' : World} {b : Nat} {x1 x2 y1 y2 : Int} (h : Below wa.heap.size wa w ∧ w.cell? ⟨b, 0, none⟩ = some (.int .i64 x1) ∧ w.cell? ⟨b, 1, none⟩ = some (.int .i64 x2) ∧ w.cell? ⟨b + 1, 0, none⟩ = some (.int .i64 y1) ∧ w.cell? ⟨b + 1, 1, none⟩ = some (.int .i64 y2)) (hb : Below w.heap.size w w') :
    Below wa.heap.size wa w' ∧ w'.cell? ⟨b, 0, none⟩ = some (.int .i64 x1) ∧ w'.cell? ⟨b, 1, none⟩ = some (.int .i64 x2) ∧ w'.cell? ⟨b + 1, 0, none⟩ = some (.int .i64 y1) ∧ w'.cell? ⟨b + 1, 1, none⟩ = some (.int .i64 y2) :=
  ⟨h.1.trans (hb.mono h.1.size), cell_keep hb h.2.1, cell_keep hb h.2.2.1, cell_keep hb h.2.2.2.1, cell_keep hb h.2.2.2.2⟩
/-- how often a resource comes -/
def cntR (z : R2) (l : List R2) : Nat := l.count z
theorem cntR_snoc (z : R2) (l : List R2) (x : R2) : cntR z (l ++ [x]) = cntR z l + (if x = z then 1 else 0) := by
  unfold cntR
  rw [List.count_append, List.count_singleton]
  by_cases h : x = z <;> simp [h]
theorem cntR_le (z : R2) (l : List R2) : cntR z l ≤ l.length := List.count_le_length
theorem cntR_sort (z : R2) (rs : List R2) : cntR z (sortR rs) = cntR z rs := (sortR_perm rs).count_eq z
theorem sorted_next (rs : List R2) (j : Nat) (h : j + 1 < rs.length) : ltB ((sortR rs).getD (j + 1) (0, 0)) ((sortR rs).getD j (0, 0)) = false := by
  have hl := sortR_length rs
  have := (List.pairwise_iff_getElem.1 (sortR_sorted rs)) j (j + 1) (by omega) (by omega) (by omega)
  rw [List.getD_eq_getElem?_getD, List.getD_eq_getElem?_getD, List.getElem?_eq_getElem (by omega), List.getElem?_eq_getElem (by omega)]
  unfold ltB
  simpa using this
theorem rdR_of_own {w : World} {B n : Nat} {v : Value} {rs : List R2} (h : w.ownsRow B 24 2 v n (flatR rs)) : ∃ A c, v = .slice A n c ∧ RdR0 w.heap.size w A rs := by
  have hl : rs.length = n := by have := h.1; rw [flatR_length] at this; omega
  rcases Nat.eq_zero_or_pos n with h0 | h0
  · subst h0
    have : rs = [] := List.eq_nil_of_length_eq_zero hl
    subst this
    rcases h.2 with ⟨rfl, _⟩ | ⟨g, cap, cur, rfl, _⟩
    · exact ⟨_, _, rfl, 0, 0, ⟨fun h => by simp at h, fun j hj => by simp at hj⟩⟩
    · exact ⟨_, _, rfl, 0, 0, ⟨fun h => by simp at h, fun j hj => by simp at hj⟩⟩
  · obtain ⟨g, cap, rfl, _, hg, hh⟩ := holds_of_own h hl h0
    exact ⟨_, _, rfl, rd_of_holds hh hg⟩
set_option maxRecDepth 100000 in
set_option maxHeartbeats 16000000 in
theorem order_true (A : Option Addr) (n c : Nat) (rs : List R2) (x1 x2 y1 y2 : Int) (w : World) (hE : ErrT w) (hr : RdR0 w.heap.size w A rs) (hl : rs.length = n) :
    Calls Tryd.prog 7 #[.slice A n c, .agg #[.int .i64 x1, .int .i64 x2], .agg #[.int .i64 y1, .int .i64 y2]] w fun e w' => e = .returned (.bool true) ∧ Below w.heap.size w w' := by
  have hbB : Below w.heap.size w ((w.alloc (.cells #[.int .i64 x1, .int .i64 x2] 24)).alloc (.cells #[.int .i64 y1, .int .i64 y2] 24)) := ((Below.refl _ _).alloc (Nat.le_refl _) _).alloc (by simp) _
  have HA := Lib.hid (alive_true _ (hE.below hbB))
  have p0 : ((w.alloc (.cells #[.int .i64 x1, .int .i64 x2] 24)).alloc (.cells #[.int .i64 y1, .int .i64 y2] 24)).cell? ⟨w.heap.size, 0, none⟩ = some (.int .i64 x1) := by simp
  have p1 : ((w.alloc (.cells #[.int .i64 x1, .int .i64 x2] 24)).alloc (.cells #[.int .i64 y1, .int .i64 y2] 24)).cell? ⟨w.heap.size, 1, none⟩ = some (.int .i64 x2) := by simp
  have q0 : ((w.alloc (.cells #[.int .i64 x1, .int .i64 x2] 24)).alloc (.cells #[.int .i64 y1, .int .i64 y2] 24)).cell? ⟨w.heap.size + 1, 0, none⟩ = some (.int .i64 y1) := by simp
  have q1 : ((w.alloc (.cells #[.int .i64 x1, .int .i64 x2] 24)).alloc (.cells #[.int .i64 y1, .int .i64 y2] 24)).cell? ⟨w.heap.size + 1, 1, none⟩ = some (.int .i64 y2) := by simp
  have HL := Lib.hid hl
  have HR := Lib.hid (hr.below hbB)
  have HB0 := Lib.hid hbB
  clear hr hl hE hbB
  go_enter Tryd.func7, Tryd.ntmps7
  go_wp2_with fail
  obtain ⟨b, hb⟩ : ∃ b, w.heap.size = b := ⟨_, rfl⟩
  have HBs := Lib.hid hb
  generalize (w.alloc (.cells #[.int .i64 x1, .int .i64 x2] 24)).alloc (.cells #[.int .i64 y1, .int .i64 y2] 24) = w2 at *
  rw [hb] at p0 p1 q0 q1 ⊢
  clear hb
  refine HA.out.mono ?_
  rintro e w3 ⟨rfl, hb3⟩
  have P3 := Lib.hid (And.intro (cell_keep hb3 p0) (And.intro (cell_keep hb3 p1) (And.intro (cell_keep hb3 q0) (cell_keep hb3 q1))))
  have HR3 := Lib.hid (HR.out.below (hb3.mono HB0.out.size))
  have HB3 := Lib.hid (HB0.out.trans (hb3.mono HB0.out.size))
  clear p0 p1 q0 q1 hb3 HA HR
  by_cases q : 200 < n
  · have q' : (200 : Int) < (n : Int) := by omega
    go_wp2
    go_ret
    exact ⟨rfl, HB3.out⟩
  have q' : ¬ (200 : Int) < (n : Int) := by omega
  have hem := own_at_none (w := w3.alloc (.cells #[] 24)) (g := w3.heap.size) (B := w3.heap.size) (T := 24) (sz := 2) (World.alloc_heap_new w3 _) (Nat.le_refl _)
  have hba : Below w3.heap.size w3 (w3.alloc (.cells #[] 24)) := (Below.refl _ _).alloc (Nat.le_refl _) _
  have hra := HR3.out.below (hba.mono HB3.out.size)
  go_wp2_with (at_builtin; refine wpList_append_ress rfl _ _ rfl rfl w3.heap.size _ 0 [] rfl hem A n c w.heap.size rs HL.out rfl hra hba.size (by omega) ?_; intro v4 w4 hown4 hg4; have HB4 := Lib.hid (Below.grown hba hg4 hba.size (fun q hq => (hem.lt q hq).1)))
  rw [Nat.zero_add, List.nil_append] at hown4
  obtain ⟨A4, c4, rfl, hr4⟩ := rdR_of_own hown4
  have HS := Lib.hid (sort_any w4.heap.size n c4 A4 rs HL.out (by omega) w4 (Nat.le_refl _) hr4)
  have HW4 := Lib.hid (HB3.out.trans (HB4.out.mono HB3.out.size))
  clear hem hba hra hown4 hg4 hr4
  refine HS.out.mono ?_
  rintro e wo ⟨⟨Ao, co, rfl, hro⟩, hbo⟩
  have HRO := Lib.hid hro
  have HBO := Lib.hid (HW4.out.trans (hbo.mono HW4.out.size))
  have HB45 := Lib.hid (HB4.out.trans (hbo.mono HB4.out.size))
  obtain ⟨p0, p1, q0, q1⟩ := P3.out
  have h0 := And.intro ((Below.refl wo.heap.size wo).drew) (And.intro (cell_keep HB45.out p0) (And.intro (cell_keep HB45.out p1) (And.intro (cell_keep HB45.out q0) (cell_keep HB45.out q1))))
  have HRW := Lib.hid (HR3.out.below (HB45.out.mono HB3.out.size))
  have HLS := Lib.hid ((sortR_length rs).trans HL.out)
  clear hro hbo p0 p1 q0 q1 HS HB4 HW4 HB45 P3
  dsimp only
  have nn : ((n : Int) == (n : Int)) = true := by simp
  by_cases h1 : x1 < y1 ∨ x1 = y1 ∧ x2 < y2
  · have e1 : ltB (x1, x2) (y1, y2) = true := decide_eq_true h1
    have e2 : ltB (y1, y2) (x1, x2) = false := decide_eq_false (by dsimp only; omega)
    have hne : ∀ W, (binOp .neq 24 (.agg #[.int .i64 x1, .int .i64 x2]) (.agg #[.int .i64 y1, .int .i64 y2])).run Tryd.prog W = .ok (.bool (!false)) W := fun W => res_ne (a := (x1, x2)) (b := (y1, y2)) (by simp; omega) W
    have HL1 := Lib.hid (fun W => less_any x1 x2 y1 y2 W)
    have HL2 := Lib.hid (fun W => less_any y1 y2 x1 x2 W)
    have HL3 := Lib.hid (fun W => rless_any x1 x2 y1 y2 W)
    rw [e1] at HL1 HL3
    rw [e2] at HL2
    clear e1 e2 q' q
    go_wp2
    refine wp_region_N (S := (fun w' => Below wo.heap.size wo w' ∧ w'.cell? ⟨b, 0, none⟩ = some (.int .i64 x1) ∧ w'.cell? ⟨b, 1, none⟩ = some (.int .i64 x2) ∧ w'.cell? ⟨b + 1, 0, none⟩ = some (.int .i64 y1) ∧ w'.cell? ⟨b + 1, 1, none⟩ = some (.int .i64 y2))) (fun i => true) (by kernel_rfl) ?_ (fun hHeld => ?_)
    · (try dsimp only)
      first
        | exact keepS hHeld hb
        | exact h0
    refine tk (i := 0) (v := ?_) rfl (by kernel_rfl) (fun _ _ _ h => h) (Or.inl ⟨by first | kernel_rfl | rfl, ?_⟩) (by assumption) ?_
    rotate_left
    focus intro w hSw; (try dsimp only at hSw); go_simp; try with_reducible rfl
    try (unfold Act.put; dsimp only)
    refine tk (i := 1) (v := ?_) rfl (by kernel_rfl) (fun _ _ _ h => h) (Or.inl ⟨by first | kernel_rfl | rfl, ?_⟩) (by assumption) ?_
    rotate_left
    focus intro w hSw; (try dsimp only at hSw); go_simp; try with_reducible rfl
    try (unfold Act.put; dsimp only)
    refine tk (i := 2) (v := ?_) rfl (by kernel_rfl) (fun _ _ _ h => h) (Or.inl ⟨by first | kernel_rfl | rfl, ?_⟩) (by assumption) ?_
    rotate_left
    focus intro w hSw; (try dsimp only at hSw); go_simp; try with_reducible rfl
    try (unfold Act.put; dsimp only)
    refine tk (i := 3) (v := ?_) rfl (by kernel_rfl) (fun _ _ _ h => h) (Or.inl ⟨by first | kernel_rfl | rfl, ?_⟩) (by assumption) ?_
    rotate_left
    focus intro w hSw; (try dsimp only at hSw); go_simp; try with_reducible rfl
    try (unfold Act.put; dsimp only)
    refine tk (i := 4) (v := ?_) rfl (by kernel_rfl) (fun _ _ _ h => h) (Or.inl ⟨by first | kernel_rfl | rfl, ?_⟩) (by assumption) ?_
    rotate_left
    focus intro w hSw; (try dsimp only at hSw); go_simp; try with_reducible rfl
    try (unfold Act.put; dsimp only)
    refine tk (i := 5) (v := ?_) rfl (by kernel_rfl) (fun _ _ _ h => h) (Or.inl ⟨by first | kernel_rfl | rfl, ?_⟩) (by assumption) ?_
    rotate_left
    focus intro w hSw; (try dsimp only at hSw); go_simp; try with_reducible rfl
    try (unfold Act.put; dsimp only)
    refine tk (i := 6) (v := ?_) rfl (by kernel_rfl) (fun _ _ _ h => h) (Or.inl ⟨by first | kernel_rfl | rfl, ?_⟩) (by assumption) ?_
    rotate_left
    focus intro w hSw; (try dsimp only at hSw); go_simp; try with_reducible rfl
    try (unfold Act.put; dsimp only)
    refine tk (i := 7) (v := ?_) rfl (by kernel_rfl) (fun _ _ _ h => h) (Or.inl ⟨by first | kernel_rfl | rfl, ?_⟩) (by assumption) ?_
    rotate_left
    focus intro w hSw; (try dsimp only at hSw); go_simp; try with_reducible rfl
    try (unfold Act.put; dsimp only)
    refine tk (i := 9) (v := ?_) rfl (by kernel_rfl) (fun _ _ _ h => h) (Or.inl ⟨by first | kernel_rfl | rfl, ?_⟩) (by assumption) ?_
    rotate_left
    focus intro w hSw; (try dsimp only at hSw); go_simp; try with_reducible rfl
    try (unfold Act.put; dsimp only)
    refine tk (i := 10) (v := ?_) rfl (by kernel_rfl) (fun _ _ _ h => h) (Or.inl ⟨by first | kernel_rfl | rfl, ?_⟩) (by assumption) ?_
    rotate_left
    focus intro w hSw; (try dsimp only at hSw); go_simp; try with_reducible rfl
    try (unfold Act.put; dsimp only)
    refine wpAnyN_ready (rs := [8]) (by kernel_rfl) (by simp) ?_
    refine AllReadyN.cons rfl (fun K hK => ?_) ?_
    · go_simp
      go_at_call 21
      refine (HL1.out _).mono ?_
      rintro e wq ⟨rfl, hb⟩
      dsimp only
      refine hK.out _ _ ?_ (fun hHeld => ?_)
      · (try dsimp only)
        first
          | exact keepS hHeld hb
          | exact h0
      clear hK K
      (try change wpAnyN _ _ _ _ _ _ _ _ (Act.put _ (some 29) _) _)
      try (unfold Act.put; dsimp only)
      refine wpAnyN_ready (rs := [11]) (by kernel_rfl) (by simp) ?_
      refine AllReadyN.cons rfl (fun K hK => ?_) ?_
      · go_simp
        go_at_call 22
        refine (HL3.out _).mono ?_
        rintro e wq ⟨rfl, hb⟩
        dsimp only
        refine hK.out _ _ ?_ (fun hHeld => ?_)
        · (try dsimp only)
          first
            | exact keepS hHeld hb
            | exact h0
        clear hK K
        (try change wpAnyN _ _ _ _ _ _ _ _ (Act.put _ (some 32) _) _)
        try (unfold Act.put; dsimp only)
        refine tk (i := 12) (v := ?_) rfl (by kernel_rfl) (fun _ _ _ h => h) (Or.inl ⟨by first | kernel_rfl | rfl, ?_⟩) (by assumption) ?_
        rotate_left
        focus intro w hSw; (try dsimp only at hSw); go_simp; try with_reducible rfl
        try (unfold Act.put; dsimp only)
        refine tk (i := 13) (v := ?_) rfl (by kernel_rfl) (fun _ _ _ h => h) (Or.inl ⟨by first | kernel_rfl | rfl, ?_⟩) (by assumption) ?_
        rotate_left
        focus intro w hSw; (try dsimp only at hSw); go_simp; try with_reducible rfl
        try (unfold Act.put; dsimp only)
        refine tk (i := 14) (v := ?_) rfl (by kernel_rfl) (fun _ _ _ h => h) (Or.inl ⟨by first | kernel_rfl | rfl, ?_⟩) (by assumption) ?_
        rotate_left
        focus intro w hSw; (try dsimp only at hSw); go_simp; try with_reducible rfl
        try (unfold Act.put; dsimp only)
        refine tk (i := 15) (v := ?_) rfl (by kernel_rfl) (fun _ _ _ h => h) (Or.inl ⟨by first | kernel_rfl | rfl, ?_⟩) (by assumption) ?_
        rotate_left
        focus intro w hSw; (try dsimp only at hSw); go_simp; try with_reducible rfl
        try (unfold Act.put; dsimp only)
        refine tk (i := 16) (v := ?_) rfl (by kernel_rfl) (fun _ _ _ h => h) (Or.inl ⟨by first | kernel_rfl | rfl, ?_⟩) (by assumption) ?_
        rotate_left
        focus intro w hSw; (try dsimp only at hSw); go_simp; try with_reducible rfl
        try (unfold Act.put; dsimp only)
        refine tk (i := 17) (v := ?_) rfl (by kernel_rfl) (fun _ _ _ h => h) (Or.inl ⟨by first | kernel_rfl | rfl, ?_⟩) (by assumption) ?_
        rotate_left
        focus intro w hSw; (try dsimp only at hSw); go_simp; try with_reducible rfl
        try (unfold Act.put; dsimp only)
        refine tk (i := 18) (v := ?_) rfl (by kernel_rfl) (fun _ _ _ h => h) (Or.inl ⟨by first | kernel_rfl | rfl, ?_⟩) (by assumption) ?_
        rotate_left
        focus intro w hSw; (try dsimp only at hSw); go_simp; try with_reducible rfl
        try (unfold Act.put; dsimp only)
        refine tk (i := 19) (v := ?_) rfl (by kernel_rfl) (fun _ _ _ h => h) (Or.inl ⟨by first | kernel_rfl | rfl, ?_⟩) (by assumption) ?_
        rotate_left
        focus intro w hSw; (try dsimp only at hSw); go_simp; try with_reducible rfl
        try (unfold Act.put; dsimp only)
        refine wpAnyN_ready (rs := [20]) (by kernel_rfl) (by simp) ?_
        refine AllReadyN.cons rfl (fun K hK => ?_) ?_
        · go_simp
          go_at_call 21
          refine (HL1.out _).mono ?_
          rintro e wq ⟨rfl, hb⟩
          dsimp only
          refine hK.out _ _ ?_ (fun hHeld => ?_)
          · (try dsimp only)
            first
              | exact keepS hHeld hb
              | exact h0
          clear hK K
          (try change wpAnyN _ _ _ _ _ _ _ _ (Act.put _ (some 41) _) _)
          try (unfold Act.put; dsimp only)
          refine tk (i := 21) (v := ?_) rfl (by kernel_rfl) (fun _ _ _ h => h) (Or.inl ⟨by first | kernel_rfl | rfl, ?_⟩) (by assumption) ?_
          rotate_left
          focus intro w hSw; (try dsimp only at hSw); go_simp; try with_reducible rfl
          try (unfold Act.put; dsimp only)
          refine tk (i := 22) (v := undef) rfl (by kernel_rfl) (fun _ _ _ h => h) (Or.inr ⟨by first | kernel_rfl | rfl, rfl⟩) (by assumption) ?_
          try (unfold Act.put; dsimp only)
          refine tk (i := 23) (v := undef) rfl (by kernel_rfl) (fun _ _ _ h => h) (Or.inr ⟨by first | kernel_rfl | rfl, rfl⟩) (by assumption) ?_
          try (unfold Act.put; dsimp only)
          refine tk (i := 24) (v := undef) rfl (by kernel_rfl) (fun _ _ _ h => h) (Or.inr ⟨by first | kernel_rfl | rfl, rfl⟩) (by assumption) ?_
          try (unfold Act.put; dsimp only)
          refine tk (i := 25) (v := ?_) rfl (by kernel_rfl) (fun _ _ _ h => h) (Or.inl ⟨by first | kernel_rfl | rfl, ?_⟩) (by assumption) ?_
          rotate_left
          focus intro w hSw; (try dsimp only at hSw); go_simp; try with_reducible rfl
          try (unfold Act.put; dsimp only)
          refine tk (i := 26) (v := ?_) rfl (by kernel_rfl) (fun _ _ _ h => h) (Or.inl ⟨by first | kernel_rfl | rfl, ?_⟩) (by assumption) ?_
          rotate_left
          focus intro w hSw; (try dsimp only at hSw); go_simp; try with_reducible rfl
          try (unfold Act.put; dsimp only)
          refine tk (i := 27) (v := ?_) rfl (by kernel_rfl) (fun _ _ _ h => h) (Or.inl ⟨by first | kernel_rfl | rfl, ?_⟩) (by assumption) ?_
          rotate_left
          focus intro w hSw; (try dsimp only at hSw); go_simp; try with_reducible rfl
          try (unfold Act.put; dsimp only)
          refine tk (i := 28) (v := ?_) rfl (by kernel_rfl) (fun _ _ _ h => h) (Or.inl ⟨by first | kernel_rfl | rfl, ?_⟩) (by assumption) ?_
          rotate_left
          focus intro w hSw; (try dsimp only at hSw); go_simp; try with_reducible rfl
          try (unfold Act.put; dsimp only)
          refine tk (i := 29) (v := ?_) rfl (by kernel_rfl) (fun _ _ _ h => h) (Or.inl ⟨by first | kernel_rfl | rfl, ?_⟩) (by assumption) ?_
          rotate_left
          focus intro w hSw; (try dsimp only at hSw); go_simp; try with_reducible rfl
          try (unfold Act.put; dsimp only)
          refine tk (i := 30) (v := ?_) rfl (by kernel_rfl) (fun _ _ _ h => h) (Or.inl ⟨by first | kernel_rfl | rfl, ?_⟩) (by assumption) ?_
          rotate_left
          focus intro w hSw; (try dsimp only at hSw); go_simp; try with_reducible rfl
          try (unfold Act.put; dsimp only)
          refine wpAnyN_ready (rs := [31]) (by kernel_rfl) (by simp) ?_
          refine AllReadyN.cons rfl (fun K hK => ?_) ?_
          · go_simp
            go_at_call 21
            refine (HL1.out _).mono ?_
            rintro e wq ⟨rfl, hb⟩
            dsimp only
            refine hK.out _ _ ?_ (fun hHeld => ?_)
            · (try dsimp only)
              first
                | exact keepS hHeld hb
                | exact h0
            clear hK K
            (try change wpAnyN _ _ _ _ _ _ _ _ (Act.put _ (some 52) _) _)
            try (unfold Act.put; dsimp only)
            refine tk (i := 32) (v := ?_) rfl (by kernel_rfl) (fun _ _ _ h => h) (Or.inl ⟨by first | kernel_rfl | rfl, ?_⟩) (by assumption) ?_
            rotate_left
            focus intro w hSw; (try dsimp only at hSw); go_simp; try with_reducible rfl
            try (unfold Act.put; dsimp only)
            refine tk (i := 33) (v := ?_) rfl (by kernel_rfl) (fun _ _ _ h => h) (Or.inl ⟨by first | kernel_rfl | rfl, ?_⟩) (by assumption) ?_
            rotate_left
            focus intro w hSw; (try dsimp only at hSw); go_simp; try with_reducible rfl
            try (unfold Act.put; dsimp only)
            refine tk (i := 34) (v := ?_) rfl (by kernel_rfl) (fun _ _ _ h => h) (Or.inl ⟨by first | kernel_rfl | rfl, ?_⟩) (by assumption) ?_
            rotate_left
            focus intro w hSw; (try dsimp only at hSw); go_simp; try with_reducible rfl
            try (unfold Act.put; dsimp only)
            refine wpAnyN_ready (rs := [35]) (by kernel_rfl) (by simp) ?_
            refine AllReadyN.cons rfl (fun K hK => ?_) ?_
            · go_simp
              go_at_call 21
              refine (HL2.out _).mono ?_
              rintro e wq ⟨rfl, hb⟩
              dsimp only
              refine hK.out _ _ ?_ (fun hHeld => ?_)
              · (try dsimp only)
                first
                  | exact keepS hHeld hb
                  | exact h0
              clear hK K
              (try change wpAnyN _ _ _ _ _ _ _ _ (Act.put _ (some 56) _) _)
              try (unfold Act.put; dsimp only)
              refine tk (i := 36) (v := ?_) rfl (by kernel_rfl) (fun _ _ _ h => h) (Or.inl ⟨by first | kernel_rfl | rfl, ?_⟩) (by assumption) ?_
              rotate_left
              focus intro w hSw; (try dsimp only at hSw); go_simp; try with_reducible rfl
              try (unfold Act.put; dsimp only)
              refine tk (i := 37) (v := ?_) rfl (by kernel_rfl) (fun _ _ _ h => h) (Or.inl ⟨by first | kernel_rfl | rfl, ?_⟩) (by assumption) ?_
              rotate_left
              focus intro w hSw; (try dsimp only at hSw); go_simp; try with_reducible rfl
              try (unfold Act.put; dsimp only)
              refine wpAnyN_done (by kernel_rfl) ?_ _
              skip
              have HOE := Lib.hid hHeld.1
              clear hHeld
              go_wp2
              go_loopw [8] (fun vi wr => ∃ k : Nat, k ≤ n ∧ vi = .int .i64 k ∧ Below wo.heap.size wo wr) (fun vi _ => n - (intOf vi).toNat)
              case atStart => exact ⟨0, Nat.zero_le _, rfl, HOE.out⟩
              case round =>
                obtain ⟨i, hi, rfl, hbr⟩ := hrel
                have HBR := Lib.hid hbr
                by_cases hlt : i < n
                · have hlt' : (i : Int) < n := by omega
                  have hi0 : (0 : Int) ≤ i := by omega
                  obtain ⟨z, hz⟩ : ∃ z, (sortR rs).getD i (0, 0) = z := ⟨_, rfl⟩
                  have HZ := Lib.hid hz
                  clear hz
                  go_wp2
                  go_loopw [9, 10, 11] (fun vn vm vk wr => ∃ k : Nat, k ≤ n ∧ vk = .int .i64 k ∧ vn = .int .i64 (cntR z (rs.take k) : Nat) ∧ vm = .int .i64 (cntR z ((sortR rs).take k) : Nat) ∧ Below wo.heap.size wo wr) (fun _ _ vk _ => n - (intOf vk).toNat)
                  case atStart => exact ⟨0, Nat.zero_le _, rfl, rfl, rfl, HBR.out⟩
                  case round =>
                    obtain ⟨k, hk, rfl, rfl, rfl, hbq⟩ := hrel
                    have HBQ := Lib.hid hbq
                    by_cases hkn : k < n
                    · have hkn' : (k : Int) < n := by omega
                      have hk0 : (0 : Int) ≤ k := by omega
                      obtain ⟨gl, ol, hAl, hcl⟩ := HRW.out.below (hbq.mono HBO.out.size)
                      obtain ⟨rfl, _⟩ := hAl (by rw [HL.out]; omega)
                      obtain ⟨go, oo, hAo, hco⟩ := HRO.out.below hbq
                      obtain ⟨rfl, _⟩ := hAo (by rw [HLS.out]; omega)
                      obtain ⟨a0, a1⟩ := hcl k (by rw [HL.out]; exact hkn)
                      obtain ⟨b0, b1⟩ := hco k (by rw [HLS.out]; exact hkn)
                      obtain ⟨z0, z1⟩ := hco i (by rw [HLS.out]; exact hlt)
                      rw [HZ.out] at z0 z1
                      have HT1 := Lib.hid (takeR_succ (rs := rs) (k := k) (by rw [HL.out]; exact hkn))
                      have HT2 := Lib.hid (takeR_succ (rs := sortR rs) (k := k) (by rw [HLS.out]; exact hkn))
                      have HC1 := Lib.hid (Nat.le_trans (cntR_le z (rs.take k)) (by rw [List.length_take]; omega : (rs.take k).length ≤ k))
                      have HC2 := Lib.hid (Nat.le_trans (cntR_le z ((sortR rs).take k)) (by rw [List.length_take]; omega : ((sortR rs).take k).length ≤ k))
                      obtain ⟨u, hu⟩ : ∃ u, rs.getD k (0, 0) = u := ⟨_, rfl⟩
                      obtain ⟨v, hv⟩ : ∃ v, (sortR rs).getD k (0, 0) = v := ⟨_, rfl⟩
                      rw [hu] at a0 a1 HT1
                      rw [hv] at b0 b1 HT2
                      have hs1 := cntR_snoc z (rs.take k) u
                      have hs2 := cntR_snoc z ((sortR rs).take k) v
                      rw [← HT1.out] at hs1
                      rw [← HT2.out] at hs2
                      have hn1 := HC1.out
                      have hn2 := HC2.out
                      obtain ⟨m1, hm1⟩ : ∃ m, cntR z (rs.take k) = m := ⟨_, rfl⟩
                      obtain ⟨m2, hm2⟩ : ∃ m, cntR z ((sortR rs).take k) = m := ⟨_, rfl⟩
                      rw [hm1] at hs1 hn1 ⊢
                      rw [hm2] at hs2 hn2 ⊢
                      have hz1 : m1 + 1 ≤ 1000000 := by omega
                      have hz2 : m2 + 1 ≤ 1000000 := by omega
                      have HN := Lib.hid hkn
                      clear hAl hcl hAo hco HC1 HC2 hu hv hm1 hm2 HT1 HT2 hn1 hn2 hbq
                      obtain ⟨zt, zr⟩ := z
                      obtain ⟨ut, ur⟩ := u
                      obtain ⟨vt, vr⟩ := v
                      dsimp only at a0 a1 b0 b1 z0 z1
                      obtain ⟨D1, hD1⟩ : ∃ D, decide ((ut, ur) = (zt, zr)) = D := ⟨_, rfl⟩
                      obtain ⟨D2, hD2⟩ : ∃ D, decide ((vt, vr) = (zt, zr)) = D := ⟨_, rfl⟩
                      have hq1 : ∀ W, (binOp .eql 24 (.agg #[.int .i64 ut, .int .i64 ur]) (.agg #[.int .i64 zt, .int .i64 zr])).run Tryd.prog W = .ok (.bool D1) W := fun W => res_eq (a := (ut, ur)) (b := (zt, zr)) (by rw [← hD1]; simp) W
                      have hq2 : ∀ W, (binOp .eql 24 (.agg #[.int .i64 vt, .int .i64 vr]) (.agg #[.int .i64 zt, .int .i64 zr])).run Tryd.prog W = .ok (.bool D2) W := fun W => res_eq (a := (vt, vr)) (b := (zt, zr)) (by rw [← hD2]; simp) W
                      have hs1' : cntR (zt, zr) (rs.take (k + 1)) = m1 + (if D1 = true then 1 else 0) := by rw [hs1, ← hD1]; simp
                      have hs2' : cntR (zt, zr) ((sortR rs).take (k + 1)) = m2 + (if D2 = true then 1 else 0) := by rw [hs2, ← hD2]; simp
                      have HS1 := Lib.hid hs1'
                      have HS2 := Lib.hid hs2'
                      clear hD1 hD2 hs1 hs2 hs1' hs2'
                      cases D1 with
                      | true =>
                        cases D2 with
                        | true =>
                          go_wp2
                          go_quiet (fail)
                          go_wp2
                          go_quiet (fail)
                          go_wp2
                          go_roundw
                          case rel => exact ⟨k + 1, HN.out, by go_num, by rw [HS1.out]; first | rfl | (simp; done) | go_num, by rw [HS2.out]; first | rfl | (simp; done) | go_num, by first | exact below_drewN HBQ.out _ | exact below_drewN (below_drewN HBQ.out _) _⟩
                          case measure => simp [intOf]; omega
                        | false =>
                          go_wp2
                          go_quiet (fail)
                          go_wp2
                          go_quiet (fail)
                          go_wp2
                          go_roundw
                          case rel => exact ⟨k + 1, HN.out, by go_num, by rw [HS1.out]; first | rfl | (simp; done) | go_num, by rw [HS2.out]; first | rfl | (simp; done) | go_num, by first | exact below_drewN HBQ.out _ | exact below_drewN (below_drewN HBQ.out _) _⟩
                          case measure => simp [intOf]; omega
                      | false =>
                        cases D2 with
                        | true =>
                          go_wp2
                          go_quiet (fail)
                          go_wp2
                          go_quiet (fail)
                          go_wp2
                          go_roundw
                          case rel => exact ⟨k + 1, HN.out, by go_num, by rw [HS1.out]; first | rfl | (simp; done) | go_num, by rw [HS2.out]; first | rfl | (simp; done) | go_num, by first | exact below_drewN HBQ.out _ | exact below_drewN (below_drewN HBQ.out _) _⟩
                          case measure => simp [intOf]; omega
                        | false =>
                          go_wp2
                          go_quiet (fail)
                          go_wp2
                          go_quiet (fail)
                          go_wp2
                          go_roundw
                          case rel => exact ⟨k + 1, HN.out, by go_num, by rw [HS1.out]; first | rfl | (simp; done) | go_num, by rw [HS2.out]; first | rfl | (simp; done) | go_num, by first | exact below_drewN HBQ.out _ | exact below_drewN (below_drewN HBQ.out _) _⟩
                          case measure => simp [intOf]; omega
                    · obtain rfl : k = n := by omega
                      have hnn : ¬ (k : Int) < k := by omega
                      have ht1 : rs.take k = rs := List.take_of_length_le (by rw [HL.out]; exact Nat.le_refl _)
                      have ht2 : (sortR rs).take k = sortR rs := List.take_of_length_le (by rw [HLS.out]; exact Nat.le_refl _)
                      rw [ht1, ht2, cntR_sort]
                      clear ht1 ht2
                      obtain ⟨m1, hm1⟩ : ∃ m, cntR z rs = m := ⟨_, rfl⟩
                      rw [hm1]
                      clear hm1
                      have mm : ((m1 : Int) == (m1 : Int)) = true := by simp
                      obtain ⟨go, oo, hAo, hco⟩ := HRO.out.below hbq
                      obtain ⟨rfl, _⟩ := hAo (by rw [HLS.out]; omega)
                      obtain ⟨z0, z1⟩ := hco i (by rw [HLS.out]; exact hlt)
                      rw [HZ.out] at z0 z1
                      obtain ⟨zt, zr⟩ := z
                      dsimp only at z0 z1
                      have HN1 := Lib.hid (show i + 1 ≤ k from hlt)
                      rcases Nat.eq_zero_or_pos i with hi0' | hi0'
                      · subst hi0'
                        clear hAo hco hbq
                        go_wp2
                        refine wp_region_N (S := (fun _ => True)) (fun i => true) (by kernel_rfl) ?_ (fun hHeld => ?_)
                        · (try dsimp only)
                          try trivial
                        refine tk (i := 0) (v := ?_) rfl (by kernel_rfl) (fun _ _ _ h => h) (Or.inl ⟨by first | kernel_rfl | rfl, ?_⟩) (by assumption) ?_
                        rotate_left
                        focus intro w hSw; (try dsimp only at hSw); go_simp; try with_reducible rfl
                        try (unfold Act.put; dsimp only)
                        refine tk (i := 1) (v := ?_) rfl (by kernel_rfl) (fun _ _ _ h => h) (Or.inl ⟨by first | kernel_rfl | rfl, ?_⟩) (by assumption) ?_
                        rotate_left
                        focus intro w hSw; (try dsimp only at hSw); go_simp; try with_reducible rfl
                        try (unfold Act.put; dsimp only)
                        refine tk (i := 2) (v := ?_) rfl (by kernel_rfl) (fun _ _ _ h => h) (Or.inl ⟨by first | kernel_rfl | rfl, ?_⟩) (by assumption) ?_
                        rotate_left
                        focus intro w hSw; (try dsimp only at hSw); go_simp; try with_reducible rfl
                        try (unfold Act.put; dsimp only)
                        refine tk (i := 3) (v := ?_) rfl (by kernel_rfl) (fun _ _ _ h => h) (Or.inl ⟨by first | kernel_rfl | rfl, ?_⟩) (by assumption) ?_
                        rotate_left
                        focus intro w hSw; (try dsimp only at hSw); go_simp; try with_reducible rfl
                        try (unfold Act.put; dsimp only)
                        refine tk (i := 4) (v := ?_) rfl (by kernel_rfl) (fun _ _ _ h => h) (Or.inl ⟨by first | kernel_rfl | rfl, ?_⟩) (by assumption) ?_
                        rotate_left
                        focus intro w hSw; (try dsimp only at hSw); go_simp; try with_reducible rfl
                        try (unfold Act.put; dsimp only)
                        refine tk (i := 5) (v := ?_) rfl (by kernel_rfl) (fun _ _ _ h => h) (Or.inl ⟨by first | kernel_rfl | rfl, ?_⟩) (by assumption) ?_
                        rotate_left
                        focus intro w hSw; (try dsimp only at hSw); go_simp; try with_reducible rfl
                        try (unfold Act.put; dsimp only)
                        refine tk (i := 6) (v := ?_) rfl (by kernel_rfl) (fun _ _ _ h => h) (Or.inl ⟨by first | kernel_rfl | rfl, ?_⟩) (by assumption) ?_
                        rotate_left
                        focus intro w hSw; (try dsimp only at hSw); go_simp; try with_reducible rfl
                        try (unfold Act.put; dsimp only)
                        refine tk (i := 7) (v := undef) rfl (by kernel_rfl) (fun _ _ _ h => h) (Or.inr ⟨by first | kernel_rfl | rfl, rfl⟩) (by assumption) ?_
                        try (unfold Act.put; dsimp only)
                        refine tk (i := 8) (v := undef) rfl (by kernel_rfl) (fun _ _ _ h => h) (Or.inr ⟨by first | kernel_rfl | rfl, rfl⟩) (by assumption) ?_
                        try (unfold Act.put; dsimp only)
                        refine tk (i := 9) (v := undef) rfl (by kernel_rfl) (fun _ _ _ h => h) (Or.inr ⟨by first | kernel_rfl | rfl, rfl⟩) (by assumption) ?_
                        try (unfold Act.put; dsimp only)
                        refine tk (i := 10) (v := undef) rfl (by kernel_rfl) (fun _ _ _ h => h) (Or.inr ⟨by first | kernel_rfl | rfl, rfl⟩) (by assumption) ?_
                        try (unfold Act.put; dsimp only)
                        refine tk (i := 11) (v := undef) rfl (by kernel_rfl) (fun _ _ _ h => h) (Or.inr ⟨by first | kernel_rfl | rfl, rfl⟩) (by assumption) ?_
                        try (unfold Act.put; dsimp only)
                        refine tk (i := 12) (v := undef) rfl (by kernel_rfl) (fun _ _ _ h => h) (Or.inr ⟨by first | kernel_rfl | rfl, rfl⟩) (by assumption) ?_
                        try (unfold Act.put; dsimp only)
                        refine tk (i := 13) (v := undef) rfl (by kernel_rfl) (fun _ _ _ h => h) (Or.inr ⟨by first | kernel_rfl | rfl, rfl⟩) (by assumption) ?_
                        try (unfold Act.put; dsimp only)
                        refine tk (i := 14) (v := undef) rfl (by kernel_rfl) (fun _ _ _ h => h) (Or.inr ⟨by first | kernel_rfl | rfl, rfl⟩) (by assumption) ?_
                        try (unfold Act.put; dsimp only)
                        refine tk (i := 15) (v := undef) rfl (by kernel_rfl) (fun _ _ _ h => h) (Or.inr ⟨by first | kernel_rfl | rfl, rfl⟩) (by assumption) ?_
                        try (unfold Act.put; dsimp only)
                        refine tk (i := 16) (v := undef) rfl (by kernel_rfl) (fun _ _ _ h => h) (Or.inr ⟨by first | kernel_rfl | rfl, rfl⟩) (by assumption) ?_
                        try (unfold Act.put; dsimp only)
                        refine tk (i := 17) (v := ?_) rfl (by kernel_rfl) (fun _ _ _ h => h) (Or.inl ⟨by first | kernel_rfl | rfl, ?_⟩) (by assumption) ?_
                        rotate_left
                        focus intro w hSw; (try dsimp only at hSw); go_simp; try with_reducible rfl
                        try (unfold Act.put; dsimp only)
                        refine tk (i := 18) (v := ?_) rfl (by kernel_rfl) (fun _ _ _ h => h) (Or.inl ⟨by first | kernel_rfl | rfl, ?_⟩) (by assumption) ?_
                        rotate_left
                        focus intro w hSw; (try dsimp only at hSw); go_simp; try with_reducible rfl
                        try (unfold Act.put; dsimp only)
                        refine wpAnyN_done (by kernel_rfl) ?_ _
                        simp only [List.setIfInBounds_toArray, List.set_cons_succ, List.set_cons_zero]
                        go_wp2
                        go_roundw
                        case rel => exact ⟨0 + 1, HN1.out, by go_num, HBQ.out.drew⟩
                        case measure => simp [intOf]; omega
                      · obtain ⟨j, rfl⟩ : ∃ j, i = j + 1 := ⟨i - 1, by omega⟩
                        obtain ⟨t0, t1⟩ := hco j (by rw [HLS.out]; omega)
                        have hsn := sorted_next rs j (by rw [HL.out]; omega)
                        rw [HZ.out] at hsn
                        obtain ⟨v, hv⟩ : ∃ v, (sortR rs).getD j (0, 0) = v := ⟨_, rfl⟩
                        rw [hv] at t0 t1 hsn
                        clear hv
                        obtain ⟨vt, vr⟩ := v
                        dsimp only at t0 t1
                        have HLL := Lib.hid (fun W => rless_any zt zr vt vr W)
                        rw [hsn] at HLL
                        have h00 := And.intro z0 (And.intro z1 (And.intro t0 t1))
                        clear hAo hco hsn hbq
                        have hjw : ¬ (((j + 1 : Nat) : Int) ≤ 0) := by omega
                        have hjp : (0 : Int) < ((j + 1 : Nat) : Int) := by omega
                        have hjb : (j : Int) < k := by omega
                        have hj0 : (0 : Int) ≤ j := by omega
                        have hjs : ((j + 1 : Nat) : Int) - 1 = j := by omega
                        have hf1 : (0 : Int) ≤ (j : Int) + 1 := by omega
                        have hf2 : (j : Int) + 1 < (k : Int) := by omega
                        have hf4 : (0 : Int) < (j : Int) + 1 := by omega
                        have hf5 : IntKind.i64.wrap (j : Int) = (j : Int) := by simp [IntKind.wrap, IntKind.bits, IntKind.signed]; omega
                        go_wp2
                        refine wp_region_N (S := (fun w' => w'.cell? ⟨go, oo + (j + 1) * 2, none⟩ = some (.int .i64 zt) ∧ w'.cell? ⟨go, oo + (j + 1) * 2 + 1, none⟩ = some (.int .i64 zr) ∧ w'.cell? ⟨go, oo + j * 2, none⟩ = some (.int .i64 vt) ∧ w'.cell? ⟨go, oo + j * 2 + 1, none⟩ = some (.int .i64 vr))) (fun i => true) (by kernel_rfl) ?_ (fun hHeld => ?_)
                        · (try dsimp only)
                          first
                            | exact ⟨cell_keep hb hHeld.1, cell_keep hb hHeld.2.1, cell_keep hb hHeld.2.2.1, cell_keep hb hHeld.2.2.2⟩
                            | exact h00
                        refine tk (i := 0) (v := ?_) rfl (by kernel_rfl) (fun _ _ _ h => h) (Or.inl ⟨by first | kernel_rfl | rfl, ?_⟩) (by assumption) ?_
                        rotate_left
                        focus intro w hSw; (try dsimp only at hSw); go_simp; try with_reducible rfl
                        try (unfold Act.put; dsimp only)
                        refine tk (i := 1) (v := ?_) rfl (by kernel_rfl) (fun _ _ _ h => h) (Or.inl ⟨by first | kernel_rfl | rfl, ?_⟩) (by assumption) ?_
                        rotate_left
                        focus intro w hSw; (try dsimp only at hSw); go_simp; try with_reducible rfl
                        try (unfold Act.put; dsimp only)
                        refine tk (i := 2) (v := ?_) rfl (by kernel_rfl) (fun _ _ _ h => h) (Or.inl ⟨by first | kernel_rfl | rfl, ?_⟩) (by assumption) ?_
                        rotate_left
                        focus intro w hSw; (try dsimp only at hSw); go_simp; try with_reducible rfl
                        try (unfold Act.put; dsimp only)
                        refine tk (i := 3) (v := ?_) rfl (by kernel_rfl) (fun _ _ _ h => h) (Or.inl ⟨by first | kernel_rfl | rfl, ?_⟩) (by assumption) ?_
                        rotate_left
                        focus intro w hSw; (try dsimp only at hSw); go_simp; try with_reducible rfl
                        try (unfold Act.put; dsimp only)
                        refine tk (i := 4) (v := ?_) rfl (by kernel_rfl) (fun _ _ _ h => h) (Or.inl ⟨by first | kernel_rfl | rfl, ?_⟩) (by assumption) ?_
                        rotate_left
                        focus intro w hSw; (try dsimp only at hSw); go_simp; try with_reducible rfl
                        try (unfold Act.put; dsimp only)
                        refine tk (i := 5) (v := ?_) rfl (by kernel_rfl) (fun _ _ _ h => h) (Or.inl ⟨by first | kernel_rfl | rfl, ?_⟩) (by assumption) ?_
                        rotate_left
                        focus intro w hSw; (try dsimp only at hSw); go_simp; try with_reducible rfl
                        try (unfold Act.put; dsimp only)
                        refine tk (i := 6) (v := ?_) rfl (by kernel_rfl) (fun _ _ _ h => h) (Or.inl ⟨by first | kernel_rfl | rfl, ?_⟩) (by assumption) ?_
                        rotate_left
                        focus intro w hSw; (try dsimp only at hSw); go_simp; try with_reducible rfl
                        try (unfold Act.put; dsimp only)
                        refine tk (i := 7) (v := ?_) rfl (by kernel_rfl) (fun _ _ _ h => h) (Or.inl ⟨by first | kernel_rfl | rfl, ?_⟩) (by assumption) ?_
                        rotate_left
                        focus intro w hSw; (try dsimp only at hSw); go_simp; try with_reducible rfl
                        try (unfold Act.put; dsimp only)
                        refine tk (i := 8) (v := ?_) rfl (by kernel_rfl) (fun _ _ _ h => h) (Or.inl ⟨by first | kernel_rfl | rfl, ?_⟩) (by assumption) ?_
                        rotate_left
                        focus intro w hSw; (try dsimp only at hSw); go_simp; try with_reducible rfl
                        try (unfold Act.put; dsimp only)
                        refine tk (i := 9) (v := ?_) rfl (by kernel_rfl) (fun _ _ _ h => h) (Or.inl ⟨by first | kernel_rfl | rfl, ?_⟩) (by assumption) ?_
                        rotate_left
                        focus intro w hSw; (try dsimp only at hSw); go_simp; try with_reducible rfl
                        try (unfold Act.put; dsimp only)
                        refine tk (i := 10) (v := ?_) rfl (by kernel_rfl) (fun _ _ _ h => h) (Or.inl ⟨by first | kernel_rfl | rfl, ?_⟩) (by assumption) ?_
                        rotate_left
                        focus intro w hSw; (try dsimp only at hSw); go_simp; try with_reducible rfl
                        try (unfold Act.put; dsimp only)
                        refine tk (i := 11) (v := ?_) rfl (by kernel_rfl) (fun _ _ _ h => h) (Or.inl ⟨by first | kernel_rfl | rfl, ?_⟩) (by assumption) ?_
                        rotate_left
                        focus intro w hSw; (try dsimp only at hSw); go_simp; try with_reducible rfl
                        try (unfold Act.put; dsimp only)
                        refine tk (i := 12) (v := ?_) rfl (by kernel_rfl) (fun _ _ _ h => h) (Or.inl ⟨by first | kernel_rfl | rfl, ?_⟩) (by assumption) ?_
                        rotate_left
                        focus intro w hSw; (try dsimp only at hSw); go_simp; try with_reducible rfl
                        try (unfold Act.put; dsimp only)
                        refine tk (i := 13) (v := ?_) rfl (by kernel_rfl) (fun _ _ _ h => h) (Or.inl ⟨by first | kernel_rfl | rfl, ?_⟩) (by assumption) ?_
                        rotate_left
                        focus intro w hSw; (try dsimp only at hSw); go_simp; try with_reducible rfl
                        try (unfold Act.put; dsimp only)
                        refine tk (i := 14) (v := ?_) rfl (by kernel_rfl) (fun _ _ _ h => h) (Or.inl ⟨by first | kernel_rfl | rfl, ?_⟩) (by assumption) ?_
                        rotate_left
                        focus intro w hSw; (try dsimp only at hSw); go_simp; try with_reducible rfl
                        try (unfold Act.put; dsimp only)
                        refine tk (i := 15) (v := ?_) rfl (by kernel_rfl) (fun _ _ _ h => h) (Or.inl ⟨by first | kernel_rfl | rfl, ?_⟩) (by assumption) ?_
                        rotate_left
                        focus intro w hSw; (try dsimp only at hSw); go_simp; try with_reducible rfl
                        try (unfold Act.put; dsimp only)
                        refine wpAnyN_ready (rs := [16]) (by kernel_rfl) (by simp) ?_
                        refine AllReadyN.cons rfl (fun K hK => ?_) ?_
                        · go_simp
                          go_at_call 22
                          refine (HLL.out _).mono ?_
                          rintro e wq ⟨rfl, hb⟩
                          have HBW := Lib.hid (HBQ.out.drew.trans (hb.mono HBQ.out.drew.size))
                          dsimp only
                          refine hK.out _ _ ?_ (fun hHeld => ?_)
                          · (try dsimp only)
                            first
                              | exact ⟨cell_keep hb hHeld.1, cell_keep hb hHeld.2.1, cell_keep hb hHeld.2.2.1, cell_keep hb hHeld.2.2.2⟩
                              | exact h00
                          clear hK K
                          (try change wpAnyN _ _ _ _ _ _ _ _ (Act.put _ (some 109) _) _)
                          try (unfold Act.put; dsimp only)
                          refine tk (i := 17) (v := ?_) rfl (by kernel_rfl) (fun _ _ _ h => h) (Or.inl ⟨by first | kernel_rfl | rfl, ?_⟩) (by assumption) ?_
                          rotate_left
                          focus intro w hSw; (try dsimp only at hSw); go_simp; try with_reducible rfl
                          try (unfold Act.put; dsimp only)
                          refine tk (i := 18) (v := ?_) rfl (by kernel_rfl) (fun _ _ _ h => h) (Or.inl ⟨by first | kernel_rfl | rfl, ?_⟩) (by assumption) ?_
                          rotate_left
                          focus intro w hSw; (try dsimp only at hSw); go_simp; try with_reducible rfl
                          try (unfold Act.put; dsimp only)
                          refine wpAnyN_done (by kernel_rfl) ?_ _
                          simp only [List.setIfInBounds_toArray, List.set_cons_succ, List.set_cons_zero]
                          go_wp2
                          go_roundw
                          case rel => exact ⟨j + 1 + 1, HN1.out, by go_num, HBW.out⟩
                          case measure => simp [intOf]; omega
                        exact AllReadyN.nil
                · obtain rfl : i = n := by omega
                  have hnn : ¬ (i : Int) < i := by omega
                  go_wp2
                  go_ret
                  exact ⟨rfl, HBO.out.trans (hbr.mono HBO.out.size)⟩
            exact AllReadyN.nil
          exact AllReadyN.nil
        exact AllReadyN.nil
      exact AllReadyN.nil
    exact AllReadyN.nil
  · by_cases h2 : y1 < x1 ∨ y1 = x1 ∧ y2 < x2
    · have e1 : ltB (x1, x2) (y1, y2) = false := decide_eq_false h1
      have e2 : ltB (y1, y2) (x1, x2) = true := decide_eq_true h2
      have hne : ∀ W, (binOp .neq 24 (.agg #[.int .i64 x1, .int .i64 x2]) (.agg #[.int .i64 y1, .int .i64 y2])).run Tryd.prog W = .ok (.bool (!false)) W := fun W => res_ne (a := (x1, x2)) (b := (y1, y2)) (by simp; omega) W
      have HL1 := Lib.hid (fun W => less_any x1 x2 y1 y2 W)
      have HL2 := Lib.hid (fun W => less_any y1 y2 x1 x2 W)
      have HL3 := Lib.hid (fun W => rless_any x1 x2 y1 y2 W)
      rw [e1] at HL1 HL3
      rw [e2] at HL2
      clear e1 e2 q' q
      go_wp2
      refine wp_region_N (S := (fun w' => Below wo.heap.size wo w' ∧ w'.cell? ⟨b, 0, none⟩ = some (.int .i64 x1) ∧ w'.cell? ⟨b, 1, none⟩ = some (.int .i64 x2) ∧ w'.cell? ⟨b + 1, 0, none⟩ = some (.int .i64 y1) ∧ w'.cell? ⟨b + 1, 1, none⟩ = some (.int .i64 y2))) (fun i => true) (by kernel_rfl) ?_ (fun hHeld => ?_)
      · (try dsimp only)
        first
          | exact keepS hHeld hb
          | exact h0
      refine tk (i := 0) (v := ?_) rfl (by kernel_rfl) (fun _ _ _ h => h) (Or.inl ⟨by first | kernel_rfl | rfl, ?_⟩) (by assumption) ?_
      rotate_left
      focus intro w hSw; (try dsimp only at hSw); go_simp; try with_reducible rfl
      try (unfold Act.put; dsimp only)
      refine tk (i := 1) (v := ?_) rfl (by kernel_rfl) (fun _ _ _ h => h) (Or.inl ⟨by first | kernel_rfl | rfl, ?_⟩) (by assumption) ?_
      rotate_left
      focus intro w hSw; (try dsimp only at hSw); go_simp; try with_reducible rfl
      try (unfold Act.put; dsimp only)
      refine tk (i := 2) (v := ?_) rfl (by kernel_rfl) (fun _ _ _ h => h) (Or.inl ⟨by first | kernel_rfl | rfl, ?_⟩) (by assumption) ?_
      rotate_left
      focus intro w hSw; (try dsimp only at hSw); go_simp; try with_reducible rfl
      try (unfold Act.put; dsimp only)
      refine tk (i := 3) (v := ?_) rfl (by kernel_rfl) (fun _ _ _ h => h) (Or.inl ⟨by first | kernel_rfl | rfl, ?_⟩) (by assumption) ?_
      rotate_left
      focus intro w hSw; (try dsimp only at hSw); go_simp; try with_reducible rfl
      try (unfold Act.put; dsimp only)
      refine tk (i := 4) (v := ?_) rfl (by kernel_rfl) (fun _ _ _ h => h) (Or.inl ⟨by first | kernel_rfl | rfl, ?_⟩) (by assumption) ?_
      rotate_left
      focus intro w hSw; (try dsimp only at hSw); go_simp; try with_reducible rfl
      try (unfold Act.put; dsimp only)
      refine tk (i := 5) (v := ?_) rfl (by kernel_rfl) (fun _ _ _ h => h) (Or.inl ⟨by first | kernel_rfl | rfl, ?_⟩) (by assumption) ?_
      rotate_left
      focus intro w hSw; (try dsimp only at hSw); go_simp; try with_reducible rfl
      try (unfold Act.put; dsimp only)
      refine tk (i := 6) (v := ?_) rfl (by kernel_rfl) (fun _ _ _ h => h) (Or.inl ⟨by first | kernel_rfl | rfl, ?_⟩) (by assumption) ?_
      rotate_left
      focus intro w hSw; (try dsimp only at hSw); go_simp; try with_reducible rfl
      try (unfold Act.put; dsimp only)
      refine tk (i := 7) (v := ?_) rfl (by kernel_rfl) (fun _ _ _ h => h) (Or.inl ⟨by first | kernel_rfl | rfl, ?_⟩) (by assumption) ?_
      rotate_left
      focus intro w hSw; (try dsimp only at hSw); go_simp; try with_reducible rfl
      try (unfold Act.put; dsimp only)
      refine tk (i := 9) (v := ?_) rfl (by kernel_rfl) (fun _ _ _ h => h) (Or.inl ⟨by first | kernel_rfl | rfl, ?_⟩) (by assumption) ?_
      rotate_left
      focus intro w hSw; (try dsimp only at hSw); go_simp; try with_reducible rfl
      try (unfold Act.put; dsimp only)
      refine tk (i := 10) (v := ?_) rfl (by kernel_rfl) (fun _ _ _ h => h) (Or.inl ⟨by first | kernel_rfl | rfl, ?_⟩) (by assumption) ?_
      rotate_left
      focus intro w hSw; (try dsimp only at hSw); go_simp; try with_reducible rfl
      try (unfold Act.put; dsimp only)
      refine wpAnyN_ready (rs := [8]) (by kernel_rfl) (by simp) ?_
      refine AllReadyN.cons rfl (fun K hK => ?_) ?_
      · go_simp
        go_at_call 21
        refine (HL1.out _).mono ?_
        rintro e wq ⟨rfl, hb⟩
        dsimp only
        refine hK.out _ _ ?_ (fun hHeld => ?_)
        · (try dsimp only)
          first
            | exact keepS hHeld hb
            | exact h0
        clear hK K
        (try change wpAnyN _ _ _ _ _ _ _ _ (Act.put _ (some 29) _) _)
        try (unfold Act.put; dsimp only)
        refine wpAnyN_ready (rs := [11]) (by kernel_rfl) (by simp) ?_
        refine AllReadyN.cons rfl (fun K hK => ?_) ?_
        · go_simp
          go_at_call 22
          refine (HL3.out _).mono ?_
          rintro e wq ⟨rfl, hb⟩
          dsimp only
          refine hK.out _ _ ?_ (fun hHeld => ?_)
          · (try dsimp only)
            first
              | exact keepS hHeld hb
              | exact h0
          clear hK K
          (try change wpAnyN _ _ _ _ _ _ _ _ (Act.put _ (some 32) _) _)
          try (unfold Act.put; dsimp only)
          refine tk (i := 12) (v := ?_) rfl (by kernel_rfl) (fun _ _ _ h => h) (Or.inl ⟨by first | kernel_rfl | rfl, ?_⟩) (by assumption) ?_
          rotate_left
          focus intro w hSw; (try dsimp only at hSw); go_simp; try with_reducible rfl
          try (unfold Act.put; dsimp only)
          refine tk (i := 13) (v := ?_) rfl (by kernel_rfl) (fun _ _ _ h => h) (Or.inl ⟨by first | kernel_rfl | rfl, ?_⟩) (by assumption) ?_
          rotate_left
          focus intro w hSw; (try dsimp only at hSw); go_simp; try with_reducible rfl
          try (unfold Act.put; dsimp only)
          refine tk (i := 14) (v := ?_) rfl (by kernel_rfl) (fun _ _ _ h => h) (Or.inl ⟨by first | kernel_rfl | rfl, ?_⟩) (by assumption) ?_
          rotate_left
          focus intro w hSw; (try dsimp only at hSw); go_simp; try with_reducible rfl
          try (unfold Act.put; dsimp only)
          refine tk (i := 15) (v := ?_) rfl (by kernel_rfl) (fun _ _ _ h => h) (Or.inl ⟨by first | kernel_rfl | rfl, ?_⟩) (by assumption) ?_
          rotate_left
          focus intro w hSw; (try dsimp only at hSw); go_simp; try with_reducible rfl
          try (unfold Act.put; dsimp only)
          refine tk (i := 16) (v := ?_) rfl (by kernel_rfl) (fun _ _ _ h => h) (Or.inl ⟨by first | kernel_rfl | rfl, ?_⟩) (by assumption) ?_
          rotate_left
          focus intro w hSw; (try dsimp only at hSw); go_simp; try with_reducible rfl
          try (unfold Act.put; dsimp only)
          refine tk (i := 17) (v := ?_) rfl (by kernel_rfl) (fun _ _ _ h => h) (Or.inl ⟨by first | kernel_rfl | rfl, ?_⟩) (by assumption) ?_
          rotate_left
          focus intro w hSw; (try dsimp only at hSw); go_simp; try with_reducible rfl
          try (unfold Act.put; dsimp only)
          refine tk (i := 18) (v := ?_) rfl (by kernel_rfl) (fun _ _ _ h => h) (Or.inl ⟨by first | kernel_rfl | rfl, ?_⟩) (by assumption) ?_
          rotate_left
          focus intro w hSw; (try dsimp only at hSw); go_simp; try with_reducible rfl
          try (unfold Act.put; dsimp only)
          refine tk (i := 19) (v := ?_) rfl (by kernel_rfl) (fun _ _ _ h => h) (Or.inl ⟨by first | kernel_rfl | rfl, ?_⟩) (by assumption) ?_
          rotate_left
          focus intro w hSw; (try dsimp only at hSw); go_simp; try with_reducible rfl
          try (unfold Act.put; dsimp only)
          refine wpAnyN_ready (rs := [20]) (by kernel_rfl) (by simp) ?_
          refine AllReadyN.cons rfl (fun K hK => ?_) ?_
          · go_simp
            go_at_call 21
            refine (HL1.out _).mono ?_
            rintro e wq ⟨rfl, hb⟩
            dsimp only
            refine hK.out _ _ ?_ (fun hHeld => ?_)
            · (try dsimp only)
              first
                | exact keepS hHeld hb
                | exact h0
            clear hK K
            (try change wpAnyN _ _ _ _ _ _ _ _ (Act.put _ (some 41) _) _)
            try (unfold Act.put; dsimp only)
            refine tk (i := 21) (v := ?_) rfl (by kernel_rfl) (fun _ _ _ h => h) (Or.inl ⟨by first | kernel_rfl | rfl, ?_⟩) (by assumption) ?_
            rotate_left
            focus intro w hSw; (try dsimp only at hSw); go_simp; try with_reducible rfl
            try (unfold Act.put; dsimp only)
            refine tk (i := 22) (v := ?_) rfl (by kernel_rfl) (fun _ _ _ h => h) (Or.inl ⟨by first | kernel_rfl | rfl, ?_⟩) (by assumption) ?_
            rotate_left
            focus intro w hSw; (try dsimp only at hSw); go_simp; try with_reducible rfl
            try (unfold Act.put; dsimp only)
            refine tk (i := 23) (v := ?_) rfl (by kernel_rfl) (fun _ _ _ h => h) (Or.inl ⟨by first | kernel_rfl | rfl, ?_⟩) (by assumption) ?_
            rotate_left
            focus intro w hSw; (try dsimp only at hSw); go_simp; try with_reducible rfl
            try (unfold Act.put; dsimp only)
            refine wpAnyN_ready (rs := [24]) (by kernel_rfl) (by simp) ?_
            refine AllReadyN.cons rfl (fun K hK => ?_) ?_
            · go_simp
              go_at_call 21
              refine (HL2.out _).mono ?_
              rintro e wq ⟨rfl, hb⟩
              dsimp only
              refine hK.out _ _ ?_ (fun hHeld => ?_)
              · (try dsimp only)
                first
                  | exact keepS hHeld hb
                  | exact h0
              clear hK K
              (try change wpAnyN _ _ _ _ _ _ _ _ (Act.put _ (some 45) _) _)
              try (unfold Act.put; dsimp only)
              refine tk (i := 25) (v := ?_) rfl (by kernel_rfl) (fun _ _ _ h => h) (Or.inl ⟨by first | kernel_rfl | rfl, ?_⟩) (by assumption) ?_
              rotate_left
              focus intro w hSw; (try dsimp only at hSw); go_simp; try with_reducible rfl
              try (unfold Act.put; dsimp only)
              refine tk (i := 26) (v := ?_) rfl (by kernel_rfl) (fun _ _ _ h => h) (Or.inl ⟨by first | kernel_rfl | rfl, ?_⟩) (by assumption) ?_
              rotate_left
              focus intro w hSw; (try dsimp only at hSw); go_simp; try with_reducible rfl
              try (unfold Act.put; dsimp only)
              refine tk (i := 27) (v := ?_) rfl (by kernel_rfl) (fun _ _ _ h => h) (Or.inl ⟨by first | kernel_rfl | rfl, ?_⟩) (by assumption) ?_
              rotate_left
              focus intro w hSw; (try dsimp only at hSw); go_simp; try with_reducible rfl
              try (unfold Act.put; dsimp only)
              refine tk (i := 28) (v := ?_) rfl (by kernel_rfl) (fun _ _ _ h => h) (Or.inl ⟨by first | kernel_rfl | rfl, ?_⟩) (by assumption) ?_
              rotate_left
              focus intro w hSw; (try dsimp only at hSw); go_simp; try with_reducible rfl
              try (unfold Act.put; dsimp only)
              refine tk (i := 29) (v := ?_) rfl (by kernel_rfl) (fun _ _ _ h => h) (Or.inl ⟨by first | kernel_rfl | rfl, ?_⟩) (by assumption) ?_
              rotate_left
              focus intro w hSw; (try dsimp only at hSw); go_simp; try with_reducible rfl
              try (unfold Act.put; dsimp only)
              refine tk (i := 30) (v := ?_) rfl (by kernel_rfl) (fun _ _ _ h => h) (Or.inl ⟨by first | kernel_rfl | rfl, ?_⟩) (by assumption) ?_
              rotate_left
              focus intro w hSw; (try dsimp only at hSw); go_simp; try with_reducible rfl
              try (unfold Act.put; dsimp only)
              refine wpAnyN_ready (rs := [31]) (by kernel_rfl) (by simp) ?_
              refine AllReadyN.cons rfl (fun K hK => ?_) ?_
              · go_simp
                go_at_call 21
                refine (HL1.out _).mono ?_
                rintro e wq ⟨rfl, hb⟩
                dsimp only
                refine hK.out _ _ ?_ (fun hHeld => ?_)
                · (try dsimp only)
                  first
                    | exact keepS hHeld hb
                    | exact h0
                clear hK K
                (try change wpAnyN _ _ _ _ _ _ _ _ (Act.put _ (some 52) _) _)
                try (unfold Act.put; dsimp only)
                refine tk (i := 32) (v := ?_) rfl (by kernel_rfl) (fun _ _ _ h => h) (Or.inl ⟨by first | kernel_rfl | rfl, ?_⟩) (by assumption) ?_
                rotate_left
                focus intro w hSw; (try dsimp only at hSw); go_simp; try with_reducible rfl
                try (unfold Act.put; dsimp only)
                refine tk (i := 33) (v := undef) rfl (by kernel_rfl) (fun _ _ _ h => h) (Or.inr ⟨by first | kernel_rfl | rfl, rfl⟩) (by assumption) ?_
                try (unfold Act.put; dsimp only)
                refine tk (i := 34) (v := undef) rfl (by kernel_rfl) (fun _ _ _ h => h) (Or.inr ⟨by first | kernel_rfl | rfl, rfl⟩) (by assumption) ?_
                try (unfold Act.put; dsimp only)
                refine tk (i := 35) (v := undef) rfl (by kernel_rfl) (fun _ _ _ h => h) (Or.inr ⟨by first | kernel_rfl | rfl, rfl⟩) (by assumption) ?_
                try (unfold Act.put; dsimp only)
                refine tk (i := 36) (v := ?_) rfl (by kernel_rfl) (fun _ _ _ h => h) (Or.inl ⟨by first | kernel_rfl | rfl, ?_⟩) (by assumption) ?_
                rotate_left
                focus intro w hSw; (try dsimp only at hSw); go_simp; try with_reducible rfl
                try (unfold Act.put; dsimp only)
                refine tk (i := 37) (v := ?_) rfl (by kernel_rfl) (fun _ _ _ h => h) (Or.inl ⟨by first | kernel_rfl | rfl, ?_⟩) (by assumption) ?_
                rotate_left
                focus intro w hSw; (try dsimp only at hSw); go_simp; try with_reducible rfl
                try (unfold Act.put; dsimp only)
                refine wpAnyN_done (by kernel_rfl) ?_ _
                skip
                have HOE := Lib.hid hHeld.1
                clear hHeld
                go_wp2
                go_loopw [8] (fun vi wr => ∃ k : Nat, k ≤ n ∧ vi = .int .i64 k ∧ Below wo.heap.size wo wr) (fun vi _ => n - (intOf vi).toNat)
                case atStart => exact ⟨0, Nat.zero_le _, rfl, HOE.out⟩
                case round =>
                  obtain ⟨i, hi, rfl, hbr⟩ := hrel
                  have HBR := Lib.hid hbr
                  by_cases hlt : i < n
                  · have hlt' : (i : Int) < n := by omega
                    have hi0 : (0 : Int) ≤ i := by omega
                    obtain ⟨z, hz⟩ : ∃ z, (sortR rs).getD i (0, 0) = z := ⟨_, rfl⟩
                    have HZ := Lib.hid hz
                    clear hz
                    go_wp2
                    go_loopw [9, 10, 11] (fun vn vm vk wr => ∃ k : Nat, k ≤ n ∧ vk = .int .i64 k ∧ vn = .int .i64 (cntR z (rs.take k) : Nat) ∧ vm = .int .i64 (cntR z ((sortR rs).take k) : Nat) ∧ Below wo.heap.size wo wr) (fun _ _ vk _ => n - (intOf vk).toNat)
                    case atStart => exact ⟨0, Nat.zero_le _, rfl, rfl, rfl, HBR.out⟩
                    case round =>
                      obtain ⟨k, hk, rfl, rfl, rfl, hbq⟩ := hrel
                      have HBQ := Lib.hid hbq
                      by_cases hkn : k < n
                      · have hkn' : (k : Int) < n := by omega
                        have hk0 : (0 : Int) ≤ k := by omega
                        obtain ⟨gl, ol, hAl, hcl⟩ := HRW.out.below (hbq.mono HBO.out.size)
                        obtain ⟨rfl, _⟩ := hAl (by rw [HL.out]; omega)
                        obtain ⟨go, oo, hAo, hco⟩ := HRO.out.below hbq
                        obtain ⟨rfl, _⟩ := hAo (by rw [HLS.out]; omega)
                        obtain ⟨a0, a1⟩ := hcl k (by rw [HL.out]; exact hkn)
                        obtain ⟨b0, b1⟩ := hco k (by rw [HLS.out]; exact hkn)
                        obtain ⟨z0, z1⟩ := hco i (by rw [HLS.out]; exact hlt)
                        rw [HZ.out] at z0 z1
                        have HT1 := Lib.hid (takeR_succ (rs := rs) (k := k) (by rw [HL.out]; exact hkn))
                        have HT2 := Lib.hid (takeR_succ (rs := sortR rs) (k := k) (by rw [HLS.out]; exact hkn))
                        have HC1 := Lib.hid (Nat.le_trans (cntR_le z (rs.take k)) (by rw [List.length_take]; omega : (rs.take k).length ≤ k))
                        have HC2 := Lib.hid (Nat.le_trans (cntR_le z ((sortR rs).take k)) (by rw [List.length_take]; omega : ((sortR rs).take k).length ≤ k))
                        obtain ⟨u, hu⟩ : ∃ u, rs.getD k (0, 0) = u := ⟨_, rfl⟩
                        obtain ⟨v, hv⟩ : ∃ v, (sortR rs).getD k (0, 0) = v := ⟨_, rfl⟩
                        rw [hu] at a0 a1 HT1
                        rw [hv] at b0 b1 HT2
                        have hs1 := cntR_snoc z (rs.take k) u
                        have hs2 := cntR_snoc z ((sortR rs).take k) v
                        rw [← HT1.out] at hs1
                        rw [← HT2.out] at hs2
                        have hn1 := HC1.out
                        have hn2 := HC2.out
                        obtain ⟨m1, hm1⟩ : ∃ m, cntR z (rs.take k) = m := ⟨_, rfl⟩
                        obtain ⟨m2, hm2⟩ : ∃ m, cntR z ((sortR rs).take k) = m := ⟨_, rfl⟩
                        rw [hm1] at hs1 hn1 ⊢
                        rw [hm2] at hs2 hn2 ⊢
                        have hz1 : m1 + 1 ≤ 1000000 := by omega
                        have hz2 : m2 + 1 ≤ 1000000 := by omega
                        have HN := Lib.hid hkn
                        clear hAl hcl hAo hco HC1 HC2 hu hv hm1 hm2 HT1 HT2 hn1 hn2 hbq
                        obtain ⟨zt, zr⟩ := z
                        obtain ⟨ut, ur⟩ := u
                        obtain ⟨vt, vr⟩ := v
                        dsimp only at a0 a1 b0 b1 z0 z1
                        obtain ⟨D1, hD1⟩ : ∃ D, decide ((ut, ur) = (zt, zr)) = D := ⟨_, rfl⟩
                        obtain ⟨D2, hD2⟩ : ∃ D, decide ((vt, vr) = (zt, zr)) = D := ⟨_, rfl⟩
                        have hq1 : ∀ W, (binOp .eql 24 (.agg #[.int .i64 ut, .int .i64 ur]) (.agg #[.int .i64 zt, .int .i64 zr])).run Tryd.prog W = .ok (.bool D1) W := fun W => res_eq (a := (ut, ur)) (b := (zt, zr)) (by rw [← hD1]; simp) W
                        have hq2 : ∀ W, (binOp .eql 24 (.agg #[.int .i64 vt, .int .i64 vr]) (.agg #[.int .i64 zt, .int .i64 zr])).run Tryd.prog W = .ok (.bool D2) W := fun W => res_eq (a := (vt, vr)) (b := (zt, zr)) (by rw [← hD2]; simp) W
                        have hs1' : cntR (zt, zr) (rs.take (k + 1)) = m1 + (if D1 = true then 1 else 0) := by rw [hs1, ← hD1]; simp
                        have hs2' : cntR (zt, zr) ((sortR rs).take (k + 1)) = m2 + (if D2 = true then 1 else 0) := by rw [hs2, ← hD2]; simp
                        have HS1 := Lib.hid hs1'
                        have HS2 := Lib.hid hs2'
                        clear hD1 hD2 hs1 hs2 hs1' hs2'
                        cases D1 with
                        | true =>
                          cases D2 with
                          | true =>
                            go_wp2
                            go_quiet (fail)
                            go_wp2
                            go_quiet (fail)
                            go_wp2
                            go_roundw
                            case rel => exact ⟨k + 1, HN.out, by go_num, by rw [HS1.out]; first | rfl | (simp; done) | go_num, by rw [HS2.out]; first | rfl | (simp; done) | go_num, by first | exact below_drewN HBQ.out _ | exact below_drewN (below_drewN HBQ.out _) _⟩
                            case measure => simp [intOf]; omega
                          | false =>
                            go_wp2
                            go_quiet (fail)
                            go_wp2
                            go_quiet (fail)
                            go_wp2
                            go_roundw
                            case rel => exact ⟨k + 1, HN.out, by go_num, by rw [HS1.out]; first | rfl | (simp; done) | go_num, by rw [HS2.out]; first | rfl | (simp; done) | go_num, by first | exact below_drewN HBQ.out _ | exact below_drewN (below_drewN HBQ.out _) _⟩
                            case measure => simp [intOf]; omega
                        | false =>
                          cases D2 with
                          | true =>
                            go_wp2
                            go_quiet (fail)
                            go_wp2
                            go_quiet (fail)
                            go_wp2
                            go_roundw
                            case rel => exact ⟨k + 1, HN.out, by go_num, by rw [HS1.out]; first | rfl | (simp; done) | go_num, by rw [HS2.out]; first | rfl | (simp; done) | go_num, by first | exact below_drewN HBQ.out _ | exact below_drewN (below_drewN HBQ.out _) _⟩
                            case measure => simp [intOf]; omega
                          | false =>
                            go_wp2
                            go_quiet (fail)
                            go_wp2
                            go_quiet (fail)
                            go_wp2
                            go_roundw
                            case rel => exact ⟨k + 1, HN.out, by go_num, by rw [HS1.out]; first | rfl | (simp; done) | go_num, by rw [HS2.out]; first | rfl | (simp; done) | go_num, by first | exact below_drewN HBQ.out _ | exact below_drewN (below_drewN HBQ.out _) _⟩
                            case measure => simp [intOf]; omega
                      · obtain rfl : k = n := by omega
                        have hnn : ¬ (k : Int) < k := by omega
                        have ht1 : rs.take k = rs := List.take_of_length_le (by rw [HL.out]; exact Nat.le_refl _)
                        have ht2 : (sortR rs).take k = sortR rs := List.take_of_length_le (by rw [HLS.out]; exact Nat.le_refl _)
                        rw [ht1, ht2, cntR_sort]
                        clear ht1 ht2
                        obtain ⟨m1, hm1⟩ : ∃ m, cntR z rs = m := ⟨_, rfl⟩
                        rw [hm1]
                        clear hm1
                        have mm : ((m1 : Int) == (m1 : Int)) = true := by simp
                        obtain ⟨go, oo, hAo, hco⟩ := HRO.out.below hbq
                        obtain ⟨rfl, _⟩ := hAo (by rw [HLS.out]; omega)
                        obtain ⟨z0, z1⟩ := hco i (by rw [HLS.out]; exact hlt)
                        rw [HZ.out] at z0 z1
                        obtain ⟨zt, zr⟩ := z
                        dsimp only at z0 z1
                        have HN1 := Lib.hid (show i + 1 ≤ k from hlt)
                        rcases Nat.eq_zero_or_pos i with hi0' | hi0'
                        · subst hi0'
                          clear hAo hco hbq
                          go_wp2
                          refine wp_region_N (S := (fun _ => True)) (fun i => true) (by kernel_rfl) ?_ (fun hHeld => ?_)
                          · (try dsimp only)
                            try trivial
                          refine tk (i := 0) (v := ?_) rfl (by kernel_rfl) (fun _ _ _ h => h) (Or.inl ⟨by first | kernel_rfl | rfl, ?_⟩) (by assumption) ?_
                          rotate_left
                          focus intro w hSw; (try dsimp only at hSw); go_simp; try with_reducible rfl
                          try (unfold Act.put; dsimp only)
                          refine tk (i := 1) (v := ?_) rfl (by kernel_rfl) (fun _ _ _ h => h) (Or.inl ⟨by first | kernel_rfl | rfl, ?_⟩) (by assumption) ?_
                          rotate_left
                          focus intro w hSw; (try dsimp only at hSw); go_simp; try with_reducible rfl
                          try (unfold Act.put; dsimp only)
                          refine tk (i := 2) (v := ?_) rfl (by kernel_rfl) (fun _ _ _ h => h) (Or.inl ⟨by first | kernel_rfl | rfl, ?_⟩) (by assumption) ?_
                          rotate_left
                          focus intro w hSw; (try dsimp only at hSw); go_simp; try with_reducible rfl
                          try (unfold Act.put; dsimp only)
                          refine tk (i := 3) (v := ?_) rfl (by kernel_rfl) (fun _ _ _ h => h) (Or.inl ⟨by first | kernel_rfl | rfl, ?_⟩) (by assumption) ?_
                          rotate_left
                          focus intro w hSw; (try dsimp only at hSw); go_simp; try with_reducible rfl
                          try (unfold Act.put; dsimp only)
                          refine tk (i := 4) (v := ?_) rfl (by kernel_rfl) (fun _ _ _ h => h) (Or.inl ⟨by first | kernel_rfl | rfl, ?_⟩) (by assumption) ?_
                          rotate_left
                          focus intro w hSw; (try dsimp only at hSw); go_simp; try with_reducible rfl
                          try (unfold Act.put; dsimp only)
                          refine tk (i := 5) (v := ?_) rfl (by kernel_rfl) (fun _ _ _ h => h) (Or.inl ⟨by first | kernel_rfl | rfl, ?_⟩) (by assumption) ?_
                          rotate_left
                          focus intro w hSw; (try dsimp only at hSw); go_simp; try with_reducible rfl
                          try (unfold Act.put; dsimp only)
                          refine tk (i := 6) (v := ?_) rfl (by kernel_rfl) (fun _ _ _ h => h) (Or.inl ⟨by first | kernel_rfl | rfl, ?_⟩) (by assumption) ?_
                          rotate_left
                          focus intro w hSw; (try dsimp only at hSw); go_simp; try with_reducible rfl
                          try (unfold Act.put; dsimp only)
                          refine tk (i := 7) (v := undef) rfl (by kernel_rfl) (fun _ _ _ h => h) (Or.inr ⟨by first | kernel_rfl | rfl, rfl⟩) (by assumption) ?_
                          try (unfold Act.put; dsimp only)
                          refine tk (i := 8) (v := undef) rfl (by kernel_rfl) (fun _ _ _ h => h) (Or.inr ⟨by first | kernel_rfl | rfl, rfl⟩) (by assumption) ?_
                          try (unfold Act.put; dsimp only)
                          refine tk (i := 9) (v := undef) rfl (by kernel_rfl) (fun _ _ _ h => h) (Or.inr ⟨by first | kernel_rfl | rfl, rfl⟩) (by assumption) ?_
                          try (unfold Act.put; dsimp only)
                          refine tk (i := 10) (v := undef) rfl (by kernel_rfl) (fun _ _ _ h => h) (Or.inr ⟨by first | kernel_rfl | rfl, rfl⟩) (by assumption) ?_
                          try (unfold Act.put; dsimp only)
                          refine tk (i := 11) (v := undef) rfl (by kernel_rfl) (fun _ _ _ h => h) (Or.inr ⟨by first | kernel_rfl | rfl, rfl⟩) (by assumption) ?_
                          try (unfold Act.put; dsimp only)
                          refine tk (i := 12) (v := undef) rfl (by kernel_rfl) (fun _ _ _ h => h) (Or.inr ⟨by first | kernel_rfl | rfl, rfl⟩) (by assumption) ?_
                          try (unfold Act.put; dsimp only)
                          refine tk (i := 13) (v := undef) rfl (by kernel_rfl) (fun _ _ _ h => h) (Or.inr ⟨by first | kernel_rfl | rfl, rfl⟩) (by assumption) ?_
                          try (unfold Act.put; dsimp only)
                          refine tk (i := 14) (v := undef) rfl (by kernel_rfl) (fun _ _ _ h => h) (Or.inr ⟨by first | kernel_rfl | rfl, rfl⟩) (by assumption) ?_
                          try (unfold Act.put; dsimp only)
                          refine tk (i := 15) (v := undef) rfl (by kernel_rfl) (fun _ _ _ h => h) (Or.inr ⟨by first | kernel_rfl | rfl, rfl⟩) (by assumption) ?_
                          try (unfold Act.put; dsimp only)
                          refine tk (i := 16) (v := undef) rfl (by kernel_rfl) (fun _ _ _ h => h) (Or.inr ⟨by first | kernel_rfl | rfl, rfl⟩) (by assumption) ?_
                          try (unfold Act.put; dsimp only)
                          refine tk (i := 17) (v := ?_) rfl (by kernel_rfl) (fun _ _ _ h => h) (Or.inl ⟨by first | kernel_rfl | rfl, ?_⟩) (by assumption) ?_
                          rotate_left
                          focus intro w hSw; (try dsimp only at hSw); go_simp; try with_reducible rfl
                          try (unfold Act.put; dsimp only)
                          refine tk (i := 18) (v := ?_) rfl (by kernel_rfl) (fun _ _ _ h => h) (Or.inl ⟨by first | kernel_rfl | rfl, ?_⟩) (by assumption) ?_
                          rotate_left
                          focus intro w hSw; (try dsimp only at hSw); go_simp; try with_reducible rfl
                          try (unfold Act.put; dsimp only)
                          refine wpAnyN_done (by kernel_rfl) ?_ _
                          simp only [List.setIfInBounds_toArray, List.set_cons_succ, List.set_cons_zero]
                          go_wp2
                          go_roundw
                          case rel => exact ⟨0 + 1, HN1.out, by go_num, HBQ.out.drew⟩
                          case measure => simp [intOf]; omega
                        · obtain ⟨j, rfl⟩ : ∃ j, i = j + 1 := ⟨i - 1, by omega⟩
                          obtain ⟨t0, t1⟩ := hco j (by rw [HLS.out]; omega)
                          have hsn := sorted_next rs j (by rw [HL.out]; omega)
                          rw [HZ.out] at hsn
                          obtain ⟨v, hv⟩ : ∃ v, (sortR rs).getD j (0, 0) = v := ⟨_, rfl⟩
                          rw [hv] at t0 t1 hsn
                          clear hv
                          obtain ⟨vt, vr⟩ := v
                          dsimp only at t0 t1
                          have HLL := Lib.hid (fun W => rless_any zt zr vt vr W)
                          rw [hsn] at HLL
                          have h00 := And.intro z0 (And.intro z1 (And.intro t0 t1))
                          clear hAo hco hsn hbq
                          have hjw : ¬ (((j + 1 : Nat) : Int) ≤ 0) := by omega
                          have hjp : (0 : Int) < ((j + 1 : Nat) : Int) := by omega
                          have hjb : (j : Int) < k := by omega
                          have hj0 : (0 : Int) ≤ j := by omega
                          have hjs : ((j + 1 : Nat) : Int) - 1 = j := by omega
                          have hf1 : (0 : Int) ≤ (j : Int) + 1 := by omega
                          have hf2 : (j : Int) + 1 < (k : Int) := by omega
                          have hf4 : (0 : Int) < (j : Int) + 1 := by omega
                          have hf5 : IntKind.i64.wrap (j : Int) = (j : Int) := by simp [IntKind.wrap, IntKind.bits, IntKind.signed]; omega
                          go_wp2
                          refine wp_region_N (S := (fun w' => w'.cell? ⟨go, oo + (j + 1) * 2, none⟩ = some (.int .i64 zt) ∧ w'.cell? ⟨go, oo + (j + 1) * 2 + 1, none⟩ = some (.int .i64 zr) ∧ w'.cell? ⟨go, oo + j * 2, none⟩ = some (.int .i64 vt) ∧ w'.cell? ⟨go, oo + j * 2 + 1, none⟩ = some (.int .i64 vr))) (fun i => true) (by kernel_rfl) ?_ (fun hHeld => ?_)
                          · (try dsimp only)
                            first
                              | exact ⟨cell_keep hb hHeld.1, cell_keep hb hHeld.2.1, cell_keep hb hHeld.2.2.1, cell_keep hb hHeld.2.2.2⟩
                              | exact h00
                          refine tk (i := 0) (v := ?_) rfl (by kernel_rfl) (fun _ _ _ h => h) (Or.inl ⟨by first | kernel_rfl | rfl, ?_⟩) (by assumption) ?_
                          rotate_left
                          focus intro w hSw; (try dsimp only at hSw); go_simp; try with_reducible rfl
                          try (unfold Act.put; dsimp only)
                          refine tk (i := 1) (v := ?_) rfl (by kernel_rfl) (fun _ _ _ h => h) (Or.inl ⟨by first | kernel_rfl | rfl, ?_⟩) (by assumption) ?_
                          rotate_left
                          focus intro w hSw; (try dsimp only at hSw); go_simp; try with_reducible rfl
                          try (unfold Act.put; dsimp only)
                          refine tk (i := 2) (v := ?_) rfl (by kernel_rfl) (fun _ _ _ h => h) (Or.inl ⟨by first | kernel_rfl | rfl, ?_⟩) (by assumption) ?_
                          rotate_left
                          focus intro w hSw; (try dsimp only at hSw); go_simp; try with_reducible rfl
                          try (unfold Act.put; dsimp only)
                          refine tk (i := 3) (v := ?_) rfl (by kernel_rfl) (fun _ _ _ h => h) (Or.inl ⟨by first | kernel_rfl | rfl, ?_⟩) (by assumption) ?_
                          rotate_left
                          focus intro w hSw; (try dsimp only at hSw); go_simp; try with_reducible rfl
                          try (unfold Act.put; dsimp only)
                          refine tk (i := 4) (v := ?_) rfl (by kernel_rfl) (fun _ _ _ h => h) (Or.inl ⟨by first | kernel_rfl | rfl, ?_⟩) (by assumption) ?_
                          rotate_left
                          focus intro w hSw; (try dsimp only at hSw); go_simp; try with_reducible rfl
                          try (unfold Act.put; dsimp only)
                          refine tk (i := 5) (v := ?_) rfl (by kernel_rfl) (fun _ _ _ h => h) (Or.inl ⟨by first | kernel_rfl | rfl, ?_⟩) (by assumption) ?_
                          rotate_left
                          focus intro w hSw; (try dsimp only at hSw); go_simp; try with_reducible rfl
                          try (unfold Act.put; dsimp only)
                          refine tk (i := 6) (v := ?_) rfl (by kernel_rfl) (fun _ _ _ h => h) (Or.inl ⟨by first | kernel_rfl | rfl, ?_⟩) (by assumption) ?_
                          rotate_left
                          focus intro w hSw; (try dsimp only at hSw); go_simp; try with_reducible rfl
                          try (unfold Act.put; dsimp only)
                          refine tk (i := 7) (v := ?_) rfl (by kernel_rfl) (fun _ _ _ h => h) (Or.inl ⟨by first | kernel_rfl | rfl, ?_⟩) (by assumption) ?_
                          rotate_left
                          focus intro w hSw; (try dsimp only at hSw); go_simp; try with_reducible rfl
                          try (unfold Act.put; dsimp only)
                          refine tk (i := 8) (v := ?_) rfl (by kernel_rfl) (fun _ _ _ h => h) (Or.inl ⟨by first | kernel_rfl | rfl, ?_⟩) (by assumption) ?_
                          rotate_left
                          focus intro w hSw; (try dsimp only at hSw); go_simp; try with_reducible rfl
                          try (unfold Act.put; dsimp only)
                          refine tk (i := 9) (v := ?_) rfl (by kernel_rfl) (fun _ _ _ h => h) (Or.inl ⟨by first | kernel_rfl | rfl, ?_⟩) (by assumption) ?_
                          rotate_left
                          focus intro w hSw; (try dsimp only at hSw); go_simp; try with_reducible rfl
                          try (unfold Act.put; dsimp only)
                          refine tk (i := 10) (v := ?_) rfl (by kernel_rfl) (fun _ _ _ h => h) (Or.inl ⟨by first | kernel_rfl | rfl, ?_⟩) (by assumption) ?_
                          rotate_left
                          focus intro w hSw; (try dsimp only at hSw); go_simp; try with_reducible rfl
                          try (unfold Act.put; dsimp only)
                          refine tk (i := 11) (v := ?_) rfl (by kernel_rfl) (fun _ _ _ h => h) (Or.inl ⟨by first | kernel_rfl | rfl, ?_⟩) (by assumption) ?_
                          rotate_left
                          focus intro w hSw; (try dsimp only at hSw); go_simp; try with_reducible rfl
                          try (unfold Act.put; dsimp only)
                          refine tk (i := 12) (v := ?_) rfl (by kernel_rfl) (fun _ _ _ h => h) (Or.inl ⟨by first | kernel_rfl | rfl, ?_⟩) (by assumption) ?_
                          rotate_left
                          focus intro w hSw; (try dsimp only at hSw); go_simp; try with_reducible rfl
                          try (unfold Act.put; dsimp only)
                          refine tk (i := 13) (v := ?_) rfl (by kernel_rfl) (fun _ _ _ h => h) (Or.inl ⟨by first | kernel_rfl | rfl, ?_⟩) (by assumption) ?_
                          rotate_left
                          focus intro w hSw; (try dsimp only at hSw); go_simp; try with_reducible rfl
                          try (unfold Act.put; dsimp only)
                          refine tk (i := 14) (v := ?_) rfl (by kernel_rfl) (fun _ _ _ h => h) (Or.inl ⟨by first | kernel_rfl | rfl, ?_⟩) (by assumption) ?_
                          rotate_left
                          focus intro w hSw; (try dsimp only at hSw); go_simp; try with_reducible rfl
                          try (unfold Act.put; dsimp only)
                          refine tk (i := 15) (v := ?_) rfl (by kernel_rfl) (fun _ _ _ h => h) (Or.inl ⟨by first | kernel_rfl | rfl, ?_⟩) (by assumption) ?_
                          rotate_left
                          focus intro w hSw; (try dsimp only at hSw); go_simp; try with_reducible rfl
                          try (unfold Act.put; dsimp only)
                          refine wpAnyN_ready (rs := [16]) (by kernel_rfl) (by simp) ?_
                          refine AllReadyN.cons rfl (fun K hK => ?_) ?_
                          · go_simp
                            go_at_call 22
                            refine (HLL.out _).mono ?_
                            rintro e wq ⟨rfl, hb⟩
                            have HBW := Lib.hid (HBQ.out.drew.trans (hb.mono HBQ.out.drew.size))
                            dsimp only
                            refine hK.out _ _ ?_ (fun hHeld => ?_)
                            · (try dsimp only)
                              first
                                | exact ⟨cell_keep hb hHeld.1, cell_keep hb hHeld.2.1, cell_keep hb hHeld.2.2.1, cell_keep hb hHeld.2.2.2⟩
                                | exact h00
                            clear hK K
                            (try change wpAnyN _ _ _ _ _ _ _ _ (Act.put _ (some 109) _) _)
                            try (unfold Act.put; dsimp only)
                            refine tk (i := 17) (v := ?_) rfl (by kernel_rfl) (fun _ _ _ h => h) (Or.inl ⟨by first | kernel_rfl | rfl, ?_⟩) (by assumption) ?_
                            rotate_left
                            focus intro w hSw; (try dsimp only at hSw); go_simp; try with_reducible rfl
                            try (unfold Act.put; dsimp only)
                            refine tk (i := 18) (v := ?_) rfl (by kernel_rfl) (fun _ _ _ h => h) (Or.inl ⟨by first | kernel_rfl | rfl, ?_⟩) (by assumption) ?_
                            rotate_left
                            focus intro w hSw; (try dsimp only at hSw); go_simp; try with_reducible rfl
                            try (unfold Act.put; dsimp only)
                            refine wpAnyN_done (by kernel_rfl) ?_ _
                            simp only [List.setIfInBounds_toArray, List.set_cons_succ, List.set_cons_zero]
                            go_wp2
                            go_roundw
                            case rel => exact ⟨j + 1 + 1, HN1.out, by go_num, HBW.out⟩
                            case measure => simp [intOf]; omega
                          exact AllReadyN.nil
                  · obtain rfl : i = n := by omega
                    have hnn : ¬ (i : Int) < i := by omega
                    go_wp2
                    go_ret
                    exact ⟨rfl, HBO.out.trans (hbr.mono HBO.out.size)⟩
              exact AllReadyN.nil
            exact AllReadyN.nil
          exact AllReadyN.nil
        exact AllReadyN.nil
      exact AllReadyN.nil
    · have e1 : ltB (x1, x2) (y1, y2) = false := decide_eq_false h1
      have e2 : ltB (y1, y2) (x1, x2) = false := decide_eq_false h2
      have hne : ∀ W, (binOp .neq 24 (.agg #[.int .i64 x1, .int .i64 x2]) (.agg #[.int .i64 y1, .int .i64 y2])).run Tryd.prog W = .ok (.bool (!true)) W := fun W => res_ne (a := (x1, x2)) (b := (y1, y2)) (by simp; omega) W
      have HL1 := Lib.hid (fun W => less_any x1 x2 y1 y2 W)
      have HL2 := Lib.hid (fun W => less_any y1 y2 x1 x2 W)
      have HL3 := Lib.hid (fun W => rless_any x1 x2 y1 y2 W)
      rw [e1] at HL1 HL3
      rw [e2] at HL2
      clear e1 e2 q' q
      go_wp2
      refine wp_region_N (S := (fun w' => Below wo.heap.size wo w' ∧ w'.cell? ⟨b, 0, none⟩ = some (.int .i64 x1) ∧ w'.cell? ⟨b, 1, none⟩ = some (.int .i64 x2) ∧ w'.cell? ⟨b + 1, 0, none⟩ = some (.int .i64 y1) ∧ w'.cell? ⟨b + 1, 1, none⟩ = some (.int .i64 y2))) (fun i => true) (by kernel_rfl) ?_ (fun hHeld => ?_)
      · (try dsimp only)
        first
          | exact keepS hHeld hb
          | exact h0
      refine tk (i := 0) (v := ?_) rfl (by kernel_rfl) (fun _ _ _ h => h) (Or.inl ⟨by first | kernel_rfl | rfl, ?_⟩) (by assumption) ?_
      rotate_left
      focus intro w hSw; (try dsimp only at hSw); go_simp; try with_reducible rfl
      try (unfold Act.put; dsimp only)
      refine tk (i := 1) (v := ?_) rfl (by kernel_rfl) (fun _ _ _ h => h) (Or.inl ⟨by first | kernel_rfl | rfl, ?_⟩) (by assumption) ?_
      rotate_left
      focus intro w hSw; (try dsimp only at hSw); go_simp; try with_reducible rfl
      try (unfold Act.put; dsimp only)
      refine tk (i := 2) (v := ?_) rfl (by kernel_rfl) (fun _ _ _ h => h) (Or.inl ⟨by first | kernel_rfl | rfl, ?_⟩) (by assumption) ?_
      rotate_left
      focus intro w hSw; (try dsimp only at hSw); go_simp; try with_reducible rfl
      try (unfold Act.put; dsimp only)
      refine tk (i := 3) (v := ?_) rfl (by kernel_rfl) (fun _ _ _ h => h) (Or.inl ⟨by first | kernel_rfl | rfl, ?_⟩) (by assumption) ?_
      rotate_left
      focus intro w hSw; (try dsimp only at hSw); go_simp; try with_reducible rfl
      try (unfold Act.put; dsimp only)
      refine tk (i := 4) (v := ?_) rfl (by kernel_rfl) (fun _ _ _ h => h) (Or.inl ⟨by first | kernel_rfl | rfl, ?_⟩) (by assumption) ?_
      rotate_left
      focus intro w hSw; (try dsimp only at hSw); go_simp; try with_reducible rfl
      try (unfold Act.put; dsimp only)
      refine tk (i := 5) (v := ?_) rfl (by kernel_rfl) (fun _ _ _ h => h) (Or.inl ⟨by first | kernel_rfl | rfl, ?_⟩) (by assumption) ?_
      rotate_left
      focus intro w hSw; (try dsimp only at hSw); go_simp; try with_reducible rfl
      try (unfold Act.put; dsimp only)
      refine tk (i := 6) (v := ?_) rfl (by kernel_rfl) (fun _ _ _ h => h) (Or.inl ⟨by first | kernel_rfl | rfl, ?_⟩) (by assumption) ?_
      rotate_left
      focus intro w hSw; (try dsimp only at hSw); go_simp; try with_reducible rfl
      try (unfold Act.put; dsimp only)
      refine tk (i := 7) (v := ?_) rfl (by kernel_rfl) (fun _ _ _ h => h) (Or.inl ⟨by first | kernel_rfl | rfl, ?_⟩) (by assumption) ?_
      rotate_left
      focus intro w hSw; (try dsimp only at hSw); go_simp; try with_reducible rfl
      try (unfold Act.put; dsimp only)
      refine tk (i := 9) (v := ?_) rfl (by kernel_rfl) (fun _ _ _ h => h) (Or.inl ⟨by first | kernel_rfl | rfl, ?_⟩) (by assumption) ?_
      rotate_left
      focus intro w hSw; (try dsimp only at hSw); go_simp; try with_reducible rfl
      try (unfold Act.put; dsimp only)
      refine tk (i := 10) (v := ?_) rfl (by kernel_rfl) (fun _ _ _ h => h) (Or.inl ⟨by first | kernel_rfl | rfl, ?_⟩) (by assumption) ?_
      rotate_left
      focus intro w hSw; (try dsimp only at hSw); go_simp; try with_reducible rfl
      try (unfold Act.put; dsimp only)
      refine wpAnyN_ready (rs := [8]) (by kernel_rfl) (by simp) ?_
      refine AllReadyN.cons rfl (fun K hK => ?_) ?_
      · go_simp
        go_at_call 21
        refine (HL1.out _).mono ?_
        rintro e wq ⟨rfl, hb⟩
        dsimp only
        refine hK.out _ _ ?_ (fun hHeld => ?_)
        · (try dsimp only)
          first
            | exact keepS hHeld hb
            | exact h0
        clear hK K
        (try change wpAnyN _ _ _ _ _ _ _ _ (Act.put _ (some 29) _) _)
        try (unfold Act.put; dsimp only)
        refine wpAnyN_ready (rs := [11]) (by kernel_rfl) (by simp) ?_
        refine AllReadyN.cons rfl (fun K hK => ?_) ?_
        · go_simp
          go_at_call 22
          refine (HL3.out _).mono ?_
          rintro e wq ⟨rfl, hb⟩
          dsimp only
          refine hK.out _ _ ?_ (fun hHeld => ?_)
          · (try dsimp only)
            first
              | exact keepS hHeld hb
              | exact h0
          clear hK K
          (try change wpAnyN _ _ _ _ _ _ _ _ (Act.put _ (some 32) _) _)
          try (unfold Act.put; dsimp only)
          refine tk (i := 12) (v := ?_) rfl (by kernel_rfl) (fun _ _ _ h => h) (Or.inl ⟨by first | kernel_rfl | rfl, ?_⟩) (by assumption) ?_
          rotate_left
          focus intro w hSw; (try dsimp only at hSw); go_simp; try with_reducible rfl
          try (unfold Act.put; dsimp only)
          refine tk (i := 13) (v := ?_) rfl (by kernel_rfl) (fun _ _ _ h => h) (Or.inl ⟨by first | kernel_rfl | rfl, ?_⟩) (by assumption) ?_
          rotate_left
          focus intro w hSw; (try dsimp only at hSw); go_simp; try with_reducible rfl
          try (unfold Act.put; dsimp only)
          refine tk (i := 14) (v := ?_) rfl (by kernel_rfl) (fun _ _ _ h => h) (Or.inl ⟨by first | kernel_rfl | rfl, ?_⟩) (by assumption) ?_
          rotate_left
          focus intro w hSw; (try dsimp only at hSw); go_simp; try with_reducible rfl
          try (unfold Act.put; dsimp only)
          refine tk (i := 15) (v := ?_) rfl (by kernel_rfl) (fun _ _ _ h => h) (Or.inl ⟨by first | kernel_rfl | rfl, ?_⟩) (by assumption) ?_
          rotate_left
          focus intro w hSw; (try dsimp only at hSw); go_simp; try with_reducible rfl
          try (unfold Act.put; dsimp only)
          refine tk (i := 16) (v := ?_) rfl (by kernel_rfl) (fun _ _ _ h => h) (Or.inl ⟨by first | kernel_rfl | rfl, ?_⟩) (by assumption) ?_
          rotate_left
          focus intro w hSw; (try dsimp only at hSw); go_simp; try with_reducible rfl
          try (unfold Act.put; dsimp only)
          refine tk (i := 17) (v := ?_) rfl (by kernel_rfl) (fun _ _ _ h => h) (Or.inl ⟨by first | kernel_rfl | rfl, ?_⟩) (by assumption) ?_
          rotate_left
          focus intro w hSw; (try dsimp only at hSw); go_simp; try with_reducible rfl
          try (unfold Act.put; dsimp only)
          refine tk (i := 18) (v := ?_) rfl (by kernel_rfl) (fun _ _ _ h => h) (Or.inl ⟨by first | kernel_rfl | rfl, ?_⟩) (by assumption) ?_
          rotate_left
          focus intro w hSw; (try dsimp only at hSw); go_simp; try with_reducible rfl
          try (unfold Act.put; dsimp only)
          refine tk (i := 19) (v := ?_) rfl (by kernel_rfl) (fun _ _ _ h => h) (Or.inl ⟨by first | kernel_rfl | rfl, ?_⟩) (by assumption) ?_
          rotate_left
          focus intro w hSw; (try dsimp only at hSw); go_simp; try with_reducible rfl
          try (unfold Act.put; dsimp only)
          refine wpAnyN_ready (rs := [20]) (by kernel_rfl) (by simp) ?_
          refine AllReadyN.cons rfl (fun K hK => ?_) ?_
          · go_simp
            go_at_call 21
            refine (HL1.out _).mono ?_
            rintro e wq ⟨rfl, hb⟩
            dsimp only
            refine hK.out _ _ ?_ (fun hHeld => ?_)
            · (try dsimp only)
              first
                | exact keepS hHeld hb
                | exact h0
            clear hK K
            (try change wpAnyN _ _ _ _ _ _ _ _ (Act.put _ (some 41) _) _)
            try (unfold Act.put; dsimp only)
            refine tk (i := 21) (v := ?_) rfl (by kernel_rfl) (fun _ _ _ h => h) (Or.inl ⟨by first | kernel_rfl | rfl, ?_⟩) (by assumption) ?_
            rotate_left
            focus intro w hSw; (try dsimp only at hSw); go_simp; try with_reducible rfl
            try (unfold Act.put; dsimp only)
            refine tk (i := 22) (v := ?_) rfl (by kernel_rfl) (fun _ _ _ h => h) (Or.inl ⟨by first | kernel_rfl | rfl, ?_⟩) (by assumption) ?_
            rotate_left
            focus intro w hSw; (try dsimp only at hSw); go_simp; try with_reducible rfl
            try (unfold Act.put; dsimp only)
            refine tk (i := 23) (v := ?_) rfl (by kernel_rfl) (fun _ _ _ h => h) (Or.inl ⟨by first | kernel_rfl | rfl, ?_⟩) (by assumption) ?_
            rotate_left
            focus intro w hSw; (try dsimp only at hSw); go_simp; try with_reducible rfl
            try (unfold Act.put; dsimp only)
            refine wpAnyN_ready (rs := [24]) (by kernel_rfl) (by simp) ?_
            refine AllReadyN.cons rfl (fun K hK => ?_) ?_
            · go_simp
              go_at_call 21
              refine (HL2.out _).mono ?_
              rintro e wq ⟨rfl, hb⟩
              dsimp only
              refine hK.out _ _ ?_ (fun hHeld => ?_)
              · (try dsimp only)
                first
                  | exact keepS hHeld hb
                  | exact h0
              clear hK K
              (try change wpAnyN _ _ _ _ _ _ _ _ (Act.put _ (some 45) _) _)
              try (unfold Act.put; dsimp only)
              refine tk (i := 25) (v := ?_) rfl (by kernel_rfl) (fun _ _ _ h => h) (Or.inl ⟨by first | kernel_rfl | rfl, ?_⟩) (by assumption) ?_
              rotate_left
              focus intro w hSw; (try dsimp only at hSw); go_simp; try with_reducible rfl
              try (unfold Act.put; dsimp only)
              refine tk (i := 26) (v := ?_) rfl (by kernel_rfl) (fun _ _ _ h => h) (Or.inl ⟨by first | kernel_rfl | rfl, ?_⟩) (by assumption) ?_
              rotate_left
              focus intro w hSw; (try dsimp only at hSw); go_simp; try with_reducible rfl
              try (unfold Act.put; dsimp only)
              refine tk (i := 27) (v := ?_) rfl (by kernel_rfl) (fun _ _ _ h => h) (Or.inl ⟨by first | kernel_rfl | rfl, ?_⟩) (by assumption) ?_
              rotate_left
              focus intro w hSw; (try dsimp only at hSw); go_simp; try with_reducible rfl
              try (unfold Act.put; dsimp only)
              refine tk (i := 28) (v := ?_) rfl (by kernel_rfl) (fun _ _ _ h => h) (Or.inl ⟨by first | kernel_rfl | rfl, ?_⟩) (by assumption) ?_
              rotate_left
              focus intro w hSw; (try dsimp only at hSw); go_simp; try with_reducible rfl
              try (unfold Act.put; dsimp only)
              refine tk (i := 29) (v := ?_) rfl (by kernel_rfl) (fun _ _ _ h => h) (Or.inl ⟨by first | kernel_rfl | rfl, ?_⟩) (by assumption) ?_
              rotate_left
              focus intro w hSw; (try dsimp only at hSw); go_simp; try with_reducible rfl
              try (unfold Act.put; dsimp only)
              refine tk (i := 30) (v := ?_) rfl (by kernel_rfl) (fun _ _ _ h => h) (Or.inl ⟨by first | kernel_rfl | rfl, ?_⟩) (by assumption) ?_
              rotate_left
              focus intro w hSw; (try dsimp only at hSw); go_simp; try with_reducible rfl
              try (unfold Act.put; dsimp only)
              refine wpAnyN_ready (rs := [31]) (by kernel_rfl) (by simp) ?_
              refine AllReadyN.cons rfl (fun K hK => ?_) ?_
              · go_simp
                go_at_call 21
                refine (HL1.out _).mono ?_
                rintro e wq ⟨rfl, hb⟩
                dsimp only
                refine hK.out _ _ ?_ (fun hHeld => ?_)
                · (try dsimp only)
                  first
                    | exact keepS hHeld hb
                    | exact h0
                clear hK K
                (try change wpAnyN _ _ _ _ _ _ _ _ (Act.put _ (some 52) _) _)
                try (unfold Act.put; dsimp only)
                refine tk (i := 32) (v := ?_) rfl (by kernel_rfl) (fun _ _ _ h => h) (Or.inl ⟨by first | kernel_rfl | rfl, ?_⟩) (by assumption) ?_
                rotate_left
                focus intro w hSw; (try dsimp only at hSw); go_simp; try with_reducible rfl
                try (unfold Act.put; dsimp only)
                refine tk (i := 33) (v := undef) rfl (by kernel_rfl) (fun _ _ _ h => h) (Or.inr ⟨by first | kernel_rfl | rfl, rfl⟩) (by assumption) ?_
                try (unfold Act.put; dsimp only)
                refine tk (i := 34) (v := undef) rfl (by kernel_rfl) (fun _ _ _ h => h) (Or.inr ⟨by first | kernel_rfl | rfl, rfl⟩) (by assumption) ?_
                try (unfold Act.put; dsimp only)
                refine tk (i := 35) (v := undef) rfl (by kernel_rfl) (fun _ _ _ h => h) (Or.inr ⟨by first | kernel_rfl | rfl, rfl⟩) (by assumption) ?_
                try (unfold Act.put; dsimp only)
                refine tk (i := 36) (v := ?_) rfl (by kernel_rfl) (fun _ _ _ h => h) (Or.inl ⟨by first | kernel_rfl | rfl, ?_⟩) (by assumption) ?_
                rotate_left
                focus intro w hSw; (try dsimp only at hSw); go_simp; try with_reducible rfl
                try (unfold Act.put; dsimp only)
                refine tk (i := 37) (v := ?_) rfl (by kernel_rfl) (fun _ _ _ h => h) (Or.inl ⟨by first | kernel_rfl | rfl, ?_⟩) (by assumption) ?_
                rotate_left
                focus intro w hSw; (try dsimp only at hSw); go_simp; try with_reducible rfl
                try (unfold Act.put; dsimp only)
                refine wpAnyN_done (by kernel_rfl) ?_ _
                skip
                have HOE := Lib.hid hHeld.1
                clear hHeld
                go_wp2
                go_loopw [8] (fun vi wr => ∃ k : Nat, k ≤ n ∧ vi = .int .i64 k ∧ Below wo.heap.size wo wr) (fun vi _ => n - (intOf vi).toNat)
                case atStart => exact ⟨0, Nat.zero_le _, rfl, HOE.out⟩
                case round =>
                  obtain ⟨i, hi, rfl, hbr⟩ := hrel
                  have HBR := Lib.hid hbr
                  by_cases hlt : i < n
                  · have hlt' : (i : Int) < n := by omega
                    have hi0 : (0 : Int) ≤ i := by omega
                    obtain ⟨z, hz⟩ : ∃ z, (sortR rs).getD i (0, 0) = z := ⟨_, rfl⟩
                    have HZ := Lib.hid hz
                    clear hz
                    go_wp2
                    go_loopw [9, 10, 11] (fun vn vm vk wr => ∃ k : Nat, k ≤ n ∧ vk = .int .i64 k ∧ vn = .int .i64 (cntR z (rs.take k) : Nat) ∧ vm = .int .i64 (cntR z ((sortR rs).take k) : Nat) ∧ Below wo.heap.size wo wr) (fun _ _ vk _ => n - (intOf vk).toNat)
                    case atStart => exact ⟨0, Nat.zero_le _, rfl, rfl, rfl, HBR.out⟩
                    case round =>
                      obtain ⟨k, hk, rfl, rfl, rfl, hbq⟩ := hrel
                      have HBQ := Lib.hid hbq
                      by_cases hkn : k < n
                      · have hkn' : (k : Int) < n := by omega
                        have hk0 : (0 : Int) ≤ k := by omega
                        obtain ⟨gl, ol, hAl, hcl⟩ := HRW.out.below (hbq.mono HBO.out.size)
                        obtain ⟨rfl, _⟩ := hAl (by rw [HL.out]; omega)
                        obtain ⟨go, oo, hAo, hco⟩ := HRO.out.below hbq
                        obtain ⟨rfl, _⟩ := hAo (by rw [HLS.out]; omega)
                        obtain ⟨a0, a1⟩ := hcl k (by rw [HL.out]; exact hkn)
                        obtain ⟨b0, b1⟩ := hco k (by rw [HLS.out]; exact hkn)
                        obtain ⟨z0, z1⟩ := hco i (by rw [HLS.out]; exact hlt)
                        rw [HZ.out] at z0 z1
                        have HT1 := Lib.hid (takeR_succ (rs := rs) (k := k) (by rw [HL.out]; exact hkn))
                        have HT2 := Lib.hid (takeR_succ (rs := sortR rs) (k := k) (by rw [HLS.out]; exact hkn))
                        have HC1 := Lib.hid (Nat.le_trans (cntR_le z (rs.take k)) (by rw [List.length_take]; omega : (rs.take k).length ≤ k))
                        have HC2 := Lib.hid (Nat.le_trans (cntR_le z ((sortR rs).take k)) (by rw [List.length_take]; omega : ((sortR rs).take k).length ≤ k))
                        obtain ⟨u, hu⟩ : ∃ u, rs.getD k (0, 0) = u := ⟨_, rfl⟩
                        obtain ⟨v, hv⟩ : ∃ v, (sortR rs).getD k (0, 0) = v := ⟨_, rfl⟩
                        rw [hu] at a0 a1 HT1
                        rw [hv] at b0 b1 HT2
                        have hs1 := cntR_snoc z (rs.take k) u
                        have hs2 := cntR_snoc z ((sortR rs).take k) v
                        rw [← HT1.out] at hs1
                        rw [← HT2.out] at hs2
                        have hn1 := HC1.out
                        have hn2 := HC2.out
                        obtain ⟨m1, hm1⟩ : ∃ m, cntR z (rs.take k) = m := ⟨_, rfl⟩
                        obtain ⟨m2, hm2⟩ : ∃ m, cntR z ((sortR rs).take k) = m := ⟨_, rfl⟩
                        rw [hm1] at hs1 hn1 ⊢
                        rw [hm2] at hs2 hn2 ⊢
                        have hz1 : m1 + 1 ≤ 1000000 := by omega
                        have hz2 : m2 + 1 ≤ 1000000 := by omega
                        have HN := Lib.hid hkn
                        clear hAl hcl hAo hco HC1 HC2 hu hv hm1 hm2 HT1 HT2 hn1 hn2 hbq
                        obtain ⟨zt, zr⟩ := z
                        obtain ⟨ut, ur⟩ := u
                        obtain ⟨vt, vr⟩ := v
                        dsimp only at a0 a1 b0 b1 z0 z1
                        obtain ⟨D1, hD1⟩ : ∃ D, decide ((ut, ur) = (zt, zr)) = D := ⟨_, rfl⟩
                        obtain ⟨D2, hD2⟩ : ∃ D, decide ((vt, vr) = (zt, zr)) = D := ⟨_, rfl⟩
                        have hq1 : ∀ W, (binOp .eql 24 (.agg #[.int .i64 ut, .int .i64 ur]) (.agg #[.int .i64 zt, .int .i64 zr])).run Tryd.prog W = .ok (.bool D1) W := fun W => res_eq (a := (ut, ur)) (b := (zt, zr)) (by rw [← hD1]; simp) W
                        have hq2 : ∀ W, (binOp .eql 24 (.agg #[.int .i64 vt, .int .i64 vr]) (.agg #[.int .i64 zt, .int .i64 zr])).run Tryd.prog W = .ok (.bool D2) W := fun W => res_eq (a := (vt, vr)) (b := (zt, zr)) (by rw [← hD2]; simp) W
                        have hs1' : cntR (zt, zr) (rs.take (k + 1)) = m1 + (if D1 = true then 1 else 0) := by rw [hs1, ← hD1]; simp
                        have hs2' : cntR (zt, zr) ((sortR rs).take (k + 1)) = m2 + (if D2 = true then 1 else 0) := by rw [hs2, ← hD2]; simp
                        have HS1 := Lib.hid hs1'
                        have HS2 := Lib.hid hs2'
                        clear hD1 hD2 hs1 hs2 hs1' hs2'
                        cases D1 with
                        | true =>
                          cases D2 with
                          | true =>
                            go_wp2
                            go_quiet (fail)
                            go_wp2
                            go_quiet (fail)
                            go_wp2
                            go_roundw
                            case rel => exact ⟨k + 1, HN.out, by go_num, by rw [HS1.out]; first | rfl | (simp; done) | go_num, by rw [HS2.out]; first | rfl | (simp; done) | go_num, by first | exact below_drewN HBQ.out _ | exact below_drewN (below_drewN HBQ.out _) _⟩
                            case measure => simp [intOf]; omega
                          | false =>
                            go_wp2
                            go_quiet (fail)
                            go_wp2
                            go_quiet (fail)
                            go_wp2
                            go_roundw
                            case rel => exact ⟨k + 1, HN.out, by go_num, by rw [HS1.out]; first | rfl | (simp; done) | go_num, by rw [HS2.out]; first | rfl | (simp; done) | go_num, by first | exact below_drewN HBQ.out _ | exact below_drewN (below_drewN HBQ.out _) _⟩
                            case measure => simp [intOf]; omega
                        | false =>
                          cases D2 with
                          | true =>
                            go_wp2
                            go_quiet (fail)
                            go_wp2
                            go_quiet (fail)
                            go_wp2
                            go_roundw
                            case rel => exact ⟨k + 1, HN.out, by go_num, by rw [HS1.out]; first | rfl | (simp; done) | go_num, by rw [HS2.out]; first | rfl | (simp; done) | go_num, by first | exact below_drewN HBQ.out _ | exact below_drewN (below_drewN HBQ.out _) _⟩
                            case measure => simp [intOf]; omega
                          | false =>
                            go_wp2
                            go_quiet (fail)
                            go_wp2
                            go_quiet (fail)
                            go_wp2
                            go_roundw
                            case rel => exact ⟨k + 1, HN.out, by go_num, by rw [HS1.out]; first | rfl | (simp; done) | go_num, by rw [HS2.out]; first | rfl | (simp; done) | go_num, by first | exact below_drewN HBQ.out _ | exact below_drewN (below_drewN HBQ.out _) _⟩
                            case measure => simp [intOf]; omega
                      · obtain rfl : k = n := by omega
                        have hnn : ¬ (k : Int) < k := by omega
                        have ht1 : rs.take k = rs := List.take_of_length_le (by rw [HL.out]; exact Nat.le_refl _)
                        have ht2 : (sortR rs).take k = sortR rs := List.take_of_length_le (by rw [HLS.out]; exact Nat.le_refl _)
                        rw [ht1, ht2, cntR_sort]
                        clear ht1 ht2
                        obtain ⟨m1, hm1⟩ : ∃ m, cntR z rs = m := ⟨_, rfl⟩
                        rw [hm1]
                        clear hm1
                        have mm : ((m1 : Int) == (m1 : Int)) = true := by simp
                        obtain ⟨go, oo, hAo, hco⟩ := HRO.out.below hbq
                        obtain ⟨rfl, _⟩ := hAo (by rw [HLS.out]; omega)
                        obtain ⟨z0, z1⟩ := hco i (by rw [HLS.out]; exact hlt)
                        rw [HZ.out] at z0 z1
                        obtain ⟨zt, zr⟩ := z
                        dsimp only at z0 z1
                        have HN1 := Lib.hid (show i + 1 ≤ k from hlt)
                        rcases Nat.eq_zero_or_pos i with hi0' | hi0'
                        · subst hi0'
                          clear hAo hco hbq
                          go_wp2
                          refine wp_region_N (S := (fun _ => True)) (fun i => true) (by kernel_rfl) ?_ (fun hHeld => ?_)
                          · (try dsimp only)
                            try trivial
                          refine tk (i := 0) (v := ?_) rfl (by kernel_rfl) (fun _ _ _ h => h) (Or.inl ⟨by first | kernel_rfl | rfl, ?_⟩) (by assumption) ?_
                          rotate_left
                          focus intro w hSw; (try dsimp only at hSw); go_simp; try with_reducible rfl
                          try (unfold Act.put; dsimp only)
                          refine tk (i := 1) (v := ?_) rfl (by kernel_rfl) (fun _ _ _ h => h) (Or.inl ⟨by first | kernel_rfl | rfl, ?_⟩) (by assumption) ?_
                          rotate_left
                          focus intro w hSw; (try dsimp only at hSw); go_simp; try with_reducible rfl
                          try (unfold Act.put; dsimp only)
                          refine tk (i := 2) (v := ?_) rfl (by kernel_rfl) (fun _ _ _ h => h) (Or.inl ⟨by first | kernel_rfl | rfl, ?_⟩) (by assumption) ?_
                          rotate_left
                          focus intro w hSw; (try dsimp only at hSw); go_simp; try with_reducible rfl
                          try (unfold Act.put; dsimp only)
                          refine tk (i := 3) (v := ?_) rfl (by kernel_rfl) (fun _ _ _ h => h) (Or.inl ⟨by first | kernel_rfl | rfl, ?_⟩) (by assumption) ?_
                          rotate_left
                          focus intro w hSw; (try dsimp only at hSw); go_simp; try with_reducible rfl
                          try (unfold Act.put; dsimp only)
                          refine tk (i := 4) (v := ?_) rfl (by kernel_rfl) (fun _ _ _ h => h) (Or.inl ⟨by first | kernel_rfl | rfl, ?_⟩) (by assumption) ?_
                          rotate_left
                          focus intro w hSw; (try dsimp only at hSw); go_simp; try with_reducible rfl
                          try (unfold Act.put; dsimp only)
                          refine tk (i := 5) (v := ?_) rfl (by kernel_rfl) (fun _ _ _ h => h) (Or.inl ⟨by first | kernel_rfl | rfl, ?_⟩) (by assumption) ?_
                          rotate_left
                          focus intro w hSw; (try dsimp only at hSw); go_simp; try with_reducible rfl
                          try (unfold Act.put; dsimp only)
                          refine tk (i := 6) (v := ?_) rfl (by kernel_rfl) (fun _ _ _ h => h) (Or.inl ⟨by first | kernel_rfl | rfl, ?_⟩) (by assumption) ?_
                          rotate_left
                          focus intro w hSw; (try dsimp only at hSw); go_simp; try with_reducible rfl
                          try (unfold Act.put; dsimp only)
                          refine tk (i := 7) (v := undef) rfl (by kernel_rfl) (fun _ _ _ h => h) (Or.inr ⟨by first | kernel_rfl | rfl, rfl⟩) (by assumption) ?_
                          try (unfold Act.put; dsimp only)
                          refine tk (i := 8) (v := undef) rfl (by kernel_rfl) (fun _ _ _ h => h) (Or.inr ⟨by first | kernel_rfl | rfl, rfl⟩) (by assumption) ?_
                          try (unfold Act.put; dsimp only)
                          refine tk (i := 9) (v := undef) rfl (by kernel_rfl) (fun _ _ _ h => h) (Or.inr ⟨by first | kernel_rfl | rfl, rfl⟩) (by assumption) ?_
                          try (unfold Act.put; dsimp only)
                          refine tk (i := 10) (v := undef) rfl (by kernel_rfl) (fun _ _ _ h => h) (Or.inr ⟨by first | kernel_rfl | rfl, rfl⟩) (by assumption) ?_
                          try (unfold Act.put; dsimp only)
                          refine tk (i := 11) (v := undef) rfl (by kernel_rfl) (fun _ _ _ h => h) (Or.inr ⟨by first | kernel_rfl | rfl, rfl⟩) (by assumption) ?_
                          try (unfold Act.put; dsimp only)
                          refine tk (i := 12) (v := undef) rfl (by kernel_rfl) (fun _ _ _ h => h) (Or.inr ⟨by first | kernel_rfl | rfl, rfl⟩) (by assumption) ?_
                          try (unfold Act.put; dsimp only)
                          refine tk (i := 13) (v := undef) rfl (by kernel_rfl) (fun _ _ _ h => h) (Or.inr ⟨by first | kernel_rfl | rfl, rfl⟩) (by assumption) ?_
                          try (unfold Act.put; dsimp only)
                          refine tk (i := 14) (v := undef) rfl (by kernel_rfl) (fun _ _ _ h => h) (Or.inr ⟨by first | kernel_rfl | rfl, rfl⟩) (by assumption) ?_
                          try (unfold Act.put; dsimp only)
                          refine tk (i := 15) (v := undef) rfl (by kernel_rfl) (fun _ _ _ h => h) (Or.inr ⟨by first | kernel_rfl | rfl, rfl⟩) (by assumption) ?_
                          try (unfold Act.put; dsimp only)
                          refine tk (i := 16) (v := undef) rfl (by kernel_rfl) (fun _ _ _ h => h) (Or.inr ⟨by first | kernel_rfl | rfl, rfl⟩) (by assumption) ?_
                          try (unfold Act.put; dsimp only)
                          refine tk (i := 17) (v := ?_) rfl (by kernel_rfl) (fun _ _ _ h => h) (Or.inl ⟨by first | kernel_rfl | rfl, ?_⟩) (by assumption) ?_
                          rotate_left
                          focus intro w hSw; (try dsimp only at hSw); go_simp; try with_reducible rfl
                          try (unfold Act.put; dsimp only)
                          refine tk (i := 18) (v := ?_) rfl (by kernel_rfl) (fun _ _ _ h => h) (Or.inl ⟨by first | kernel_rfl | rfl, ?_⟩) (by assumption) ?_
                          rotate_left
                          focus intro w hSw; (try dsimp only at hSw); go_simp; try with_reducible rfl
                          try (unfold Act.put; dsimp only)
                          refine wpAnyN_done (by kernel_rfl) ?_ _
                          simp only [List.setIfInBounds_toArray, List.set_cons_succ, List.set_cons_zero]
                          go_wp2
                          go_roundw
                          case rel => exact ⟨0 + 1, HN1.out, by go_num, HBQ.out.drew⟩
                          case measure => simp [intOf]; omega
                        · obtain ⟨j, rfl⟩ : ∃ j, i = j + 1 := ⟨i - 1, by omega⟩
                          obtain ⟨t0, t1⟩ := hco j (by rw [HLS.out]; omega)
                          have hsn := sorted_next rs j (by rw [HL.out]; omega)
                          rw [HZ.out] at hsn
                          obtain ⟨v, hv⟩ : ∃ v, (sortR rs).getD j (0, 0) = v := ⟨_, rfl⟩
                          rw [hv] at t0 t1 hsn
                          clear hv
                          obtain ⟨vt, vr⟩ := v
                          dsimp only at t0 t1
                          have HLL := Lib.hid (fun W => rless_any zt zr vt vr W)
                          rw [hsn] at HLL
                          have h00 := And.intro z0 (And.intro z1 (And.intro t0 t1))
                          clear hAo hco hsn hbq
                          have hjw : ¬ (((j + 1 : Nat) : Int) ≤ 0) := by omega
                          have hjp : (0 : Int) < ((j + 1 : Nat) : Int) := by omega
                          have hjb : (j : Int) < k := by omega
                          have hj0 : (0 : Int) ≤ j := by omega
                          have hjs : ((j + 1 : Nat) : Int) - 1 = j := by omega
                          have hf1 : (0 : Int) ≤ (j : Int) + 1 := by omega
                          have hf2 : (j : Int) + 1 < (k : Int) := by omega
                          have hf4 : (0 : Int) < (j : Int) + 1 := by omega
                          have hf5 : IntKind.i64.wrap (j : Int) = (j : Int) := by simp [IntKind.wrap, IntKind.bits, IntKind.signed]; omega
                          go_wp2
                          refine wp_region_N (S := (fun w' => w'.cell? ⟨go, oo + (j + 1) * 2, none⟩ = some (.int .i64 zt) ∧ w'.cell? ⟨go, oo + (j + 1) * 2 + 1, none⟩ = some (.int .i64 zr) ∧ w'.cell? ⟨go, oo + j * 2, none⟩ = some (.int .i64 vt) ∧ w'.cell? ⟨go, oo + j * 2 + 1, none⟩ = some (.int .i64 vr))) (fun i => true) (by kernel_rfl) ?_ (fun hHeld => ?_)
                          · (try dsimp only)
                            first
                              | exact ⟨cell_keep hb hHeld.1, cell_keep hb hHeld.2.1, cell_keep hb hHeld.2.2.1, cell_keep hb hHeld.2.2.2⟩
                              | exact h00
                          refine tk (i := 0) (v := ?_) rfl (by kernel_rfl) (fun _ _ _ h => h) (Or.inl ⟨by first | kernel_rfl | rfl, ?_⟩) (by assumption) ?_
                          rotate_left
                          focus intro w hSw; (try dsimp only at hSw); go_simp; try with_reducible rfl
                          try (unfold Act.put; dsimp only)
                          refine tk (i := 1) (v := ?_) rfl (by kernel_rfl) (fun _ _ _ h => h) (Or.inl ⟨by first | kernel_rfl | rfl, ?_⟩) (by assumption) ?_
                          rotate_left
                          focus intro w hSw; (try dsimp only at hSw); go_simp; try with_reducible rfl
                          try (unfold Act.put; dsimp only)
                          refine tk (i := 2) (v := ?_) rfl (by kernel_rfl) (fun _ _ _ h => h) (Or.inl ⟨by first | kernel_rfl | rfl, ?_⟩) (by assumption) ?_
                          rotate_left
                          focus intro w hSw; (try dsimp only at hSw); go_simp; try with_reducible rfl
                          try (unfold Act.put; dsimp only)
                          refine tk (i := 3) (v := ?_) rfl (by kernel_rfl) (fun _ _ _ h => h) (Or.inl ⟨by first | kernel_rfl | rfl, ?_⟩) (by assumption) ?_
                          rotate_left
                          focus intro w hSw; (try dsimp only at hSw); go_simp; try with_reducible rfl
                          try (unfold Act.put; dsimp only)
                          refine tk (i := 4) (v := ?_) rfl (by kernel_rfl) (fun _ _ _ h => h) (Or.inl ⟨by first | kernel_rfl | rfl, ?_⟩) (by assumption) ?_
                          rotate_left
                          focus intro w hSw; (try dsimp only at hSw); go_simp; try with_reducible rfl
                          try (unfold Act.put; dsimp only)
                          refine tk (i := 5) (v := ?_) rfl (by kernel_rfl) (fun _ _ _ h => h) (Or.inl ⟨by first | kernel_rfl | rfl, ?_⟩) (by assumption) ?_
                          rotate_left
                          focus intro w hSw; (try dsimp only at hSw); go_simp; try with_reducible rfl
                          try (unfold Act.put; dsimp only)
                          refine tk (i := 6) (v := ?_) rfl (by kernel_rfl) (fun _ _ _ h => h) (Or.inl ⟨by first | kernel_rfl | rfl, ?_⟩) (by assumption) ?_
                          rotate_left
                          focus intro w hSw; (try dsimp only at hSw); go_simp; try with_reducible rfl
                          try (unfold Act.put; dsimp only)
                          refine tk (i := 7) (v := ?_) rfl (by kernel_rfl) (fun _ _ _ h => h) (Or.inl ⟨by first | kernel_rfl | rfl, ?_⟩) (by assumption) ?_
                          rotate_left
                          focus intro w hSw; (try dsimp only at hSw); go_simp; try with_reducible rfl
                          try (unfold Act.put; dsimp only)
                          refine tk (i := 8) (v := ?_) rfl (by kernel_rfl) (fun _ _ _ h => h) (Or.inl ⟨by first | kernel_rfl | rfl, ?_⟩) (by assumption) ?_
                          rotate_left
                          focus intro w hSw; (try dsimp only at hSw); go_simp; try with_reducible rfl
                          try (unfold Act.put; dsimp only)
                          refine tk (i := 9) (v := ?_) rfl (by kernel_rfl) (fun _ _ _ h => h) (Or.inl ⟨by first | kernel_rfl | rfl, ?_⟩) (by assumption) ?_
                          rotate_left
                          focus intro w hSw; (try dsimp only at hSw); go_simp; try with_reducible rfl
                          try (unfold Act.put; dsimp only)
                          refine tk (i := 10) (v := ?_) rfl (by kernel_rfl) (fun _ _ _ h => h) (Or.inl ⟨by first | kernel_rfl | rfl, ?_⟩) (by assumption) ?_
                          rotate_left
                          focus intro w hSw; (try dsimp only at hSw); go_simp; try with_reducible rfl
                          try (unfold Act.put; dsimp only)
                          refine tk (i := 11) (v := ?_) rfl (by kernel_rfl) (fun _ _ _ h => h) (Or.inl ⟨by first | kernel_rfl | rfl, ?_⟩) (by assumption) ?_
                          rotate_left
                          focus intro w hSw; (try dsimp only at hSw); go_simp; try with_reducible rfl
                          try (unfold Act.put; dsimp only)
                          refine tk (i := 12) (v := ?_) rfl (by kernel_rfl) (fun _ _ _ h => h) (Or.inl ⟨by first | kernel_rfl | rfl, ?_⟩) (by assumption) ?_
                          rotate_left
                          focus intro w hSw; (try dsimp only at hSw); go_simp; try with_reducible rfl
                          try (unfold Act.put; dsimp only)
                          refine tk (i := 13) (v := ?_) rfl (by kernel_rfl) (fun _ _ _ h => h) (Or.inl ⟨by first | kernel_rfl | rfl, ?_⟩) (by assumption) ?_
                          rotate_left
                          focus intro w hSw; (try dsimp only at hSw); go_simp; try with_reducible rfl
                          try (unfold Act.put; dsimp only)
                          refine tk (i := 14) (v := ?_) rfl (by kernel_rfl) (fun _ _ _ h => h) (Or.inl ⟨by first | kernel_rfl | rfl, ?_⟩) (by assumption) ?_
                          rotate_left
                          focus intro w hSw; (try dsimp only at hSw); go_simp; try with_reducible rfl
                          try (unfold Act.put; dsimp only)
                          refine tk (i := 15) (v := ?_) rfl (by kernel_rfl) (fun _ _ _ h => h) (Or.inl ⟨by first | kernel_rfl | rfl, ?_⟩) (by assumption) ?_
                          rotate_left
                          focus intro w hSw; (try dsimp only at hSw); go_simp; try with_reducible rfl
                          try (unfold Act.put; dsimp only)
                          refine wpAnyN_ready (rs := [16]) (by kernel_rfl) (by simp) ?_
                          refine AllReadyN.cons rfl (fun K hK => ?_) ?_
                          · go_simp
                            go_at_call 22
                            refine (HLL.out _).mono ?_
                            rintro e wq ⟨rfl, hb⟩
                            have HBW := Lib.hid (HBQ.out.drew.trans (hb.mono HBQ.out.drew.size))
                            dsimp only
                            refine hK.out _ _ ?_ (fun hHeld => ?_)
                            · (try dsimp only)
                              first
                                | exact ⟨cell_keep hb hHeld.1, cell_keep hb hHeld.2.1, cell_keep hb hHeld.2.2.1, cell_keep hb hHeld.2.2.2⟩
                                | exact h00
                            clear hK K
                            (try change wpAnyN _ _ _ _ _ _ _ _ (Act.put _ (some 109) _) _)
                            try (unfold Act.put; dsimp only)
                            refine tk (i := 17) (v := ?_) rfl (by kernel_rfl) (fun _ _ _ h => h) (Or.inl ⟨by first | kernel_rfl | rfl, ?_⟩) (by assumption) ?_
                            rotate_left
                            focus intro w hSw; (try dsimp only at hSw); go_simp; try with_reducible rfl
                            try (unfold Act.put; dsimp only)
                            refine tk (i := 18) (v := ?_) rfl (by kernel_rfl) (fun _ _ _ h => h) (Or.inl ⟨by first | kernel_rfl | rfl, ?_⟩) (by assumption) ?_
                            rotate_left
                            focus intro w hSw; (try dsimp only at hSw); go_simp; try with_reducible rfl
                            try (unfold Act.put; dsimp only)
                            refine wpAnyN_done (by kernel_rfl) ?_ _
                            simp only [List.setIfInBounds_toArray, List.set_cons_succ, List.set_cons_zero]
                            go_wp2
                            go_roundw
                            case rel => exact ⟨j + 1 + 1, HN1.out, by go_num, HBW.out⟩
                            case measure => simp [intOf]; omega
                          exact AllReadyN.nil
                  · obtain rfl : i = n := by omega
                    have hnn : ¬ (i : Int) < i := by omega
                    go_wp2
                    go_ret
                    exact ⟨rfl, HBO.out.trans (hbr.mono HBO.out.size)⟩
              exact AllReadyN.nil
            exact AllReadyN.nil
          exact AllReadyN.nil
        exact AllReadyN.nil
      exact AllReadyN.nil
end Go.Proofs.YtonphamahnagfaaDoor

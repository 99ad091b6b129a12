/-
  errors.Is and catchboltlaw01.Code at a fault, catchboltlaw02.At: over nil, an error number, and a fault of an error number. No other conditions.
-/
import Derived.Test.YtonphamahnagfaaDoorAs
namespace Go.Proofs.YtonphamahnagfaaDoor
open Go.ChangeShapes Go.WideShapes Go.ChangeAt Go.RowKit Go.Extern.Stop Go.Stop Go.Extern

theorem Tryd.noIsF (v : Value) (xT : TypeId) (w : World) : (Instr.typeAssert (.iface 51 v) xT 99 true).run Tryd.prog w = .ok (.tuple #[.nilIface, .bool false]) w := run_typeAssert_lacksB Tryd.underlying99 (by kernel_rfl) (by kernel_rfl) v xT w
theorem Tryd.unwrapF (v : Value) (xT : TypeId) (w : World) : (Instr.typeAssert (.iface 51 v) xT 94 true).run Tryd.prog w = .ok (.tuple #[.iface 51 v, .bool true]) w := run_typeAssert_hasB Tryd.underlying94 (by kernel_rfl) v xT w
theorem Tryd.unwrapM (h : Value) (w : World) : (Go.method (Tryd.prog.types.size + Made.depth) 51 h "Unwrap").run Tryd.prog w = .ok (96, h) w := by kernel_rfl

set_option maxHeartbeats 1000000 in
theorem unwrap_any (b : Nat) (v : Value) (w : World) (h : w.cell? ⟨b, 1, none⟩ = some v) :
    Calls Tryd.prog 96 #[.pointer (some ⟨b, 0, none⟩)] w fun e w' => e = .returned v ∧ w = w' := by
  go_enter Tryd.func96, Tryd.ntmps96
  go_wp2
  go_ret
  exact ⟨rfl, rfl⟩

set_option maxHeartbeats 4000000 in
theorem is_fault (bk : Nat) (a b : Int) (w : World) (hc : w.cell? ⟨bk, 1, none⟩ = some (.iface 57 (.int .i64 a))) :
    Calls Tryd.prog 28 #[.iface 51 (.pointer (some ⟨bk, 0, none⟩)), .iface 57 (.int .i64 b)] w fun e w' => e = .returned (.bool (a == b)) ∧ w = w' := by
  obtain ⟨i, hi, hcmp⟩ := Option.map_eq_some_iff.1 Tryd.isComp
  have hT := @run_callFunc_extern Tryd.prog 39 _ Extern.ReflectliteType.typeOf Tryd.func39 (by kernel_rfl) (by kernel_rfl) (by kernel_rfl) (by kernel_rfl)
  have hC := @run_callFunc_extern Tryd.prog 103 _ (Extern.ReflectliteType.method fun t => do Extern.Rtype.noPackHeld "Comparable" t; pure (.bool (← typeInfo t).comparable)) Tryd.func103 (by kernel_rfl) (by kernel_rfl) (by kernel_rfl) (by kernel_rfl)
  have tT := Tryd.isTypeOf
  have cT := Tryd.isComparable
  have nE := Tryd.noIsE
  have uE := Tryd.noUnwrapE
  have vE := Tryd.noUnwrapsE
  have nF := Tryd.noIsF
  have uF := Tryd.unwrapF
  have hne2 := fun w => run_eql_iface_types (P := Tryd.prog) 51 57 (.pointer (some ⟨bk, 0, none⟩)) (.int .i64 b) Tryd.underlying26 (by decide) w
  by_cases hab : a = b
  · subst hab
    have heq := run_eql_iface_int (P := Tryd.prog) w a a Tryd.underlying26 Tryd.underlying57 hi hcmp
    rw [beq_self_eq_true] at heq ⊢
    go_enter Tryd.func28, Tryd.ntmps28
    go_wp2
    refine wp_loop_rounds 2 ?_
    rw [rounds_succ]
    go_wp2_with (go_at_call 96; refine (unwrap_any bk _ w hc).mono ?_; rintro e w' ⟨rfl, rfl⟩)
    rw [rounds_succ]
    go_wp2
    go_ret
    exact ⟨rfl, rfl⟩
  · have hne : (a == b) = false := by simp [hab]
    have heq := run_eql_iface_int (P := Tryd.prog) w a b Tryd.underlying26 Tryd.underlying57 hi hcmp
    rw [hne] at heq ⊢
    go_enter Tryd.func28, Tryd.ntmps28
    go_wp2
    refine wp_loop_rounds 2 ?_
    rw [rounds_succ]
    go_wp2_with (go_at_call 96; refine (unwrap_any bk _ w hc).mono ?_; rintro e w' ⟨rfl, rfl⟩)
    rw [rounds_succ]
    go_wp2
    go_ret
    exact ⟨rfl, rfl⟩

set_option maxHeartbeats 400000 in
theorem code_fault (bk : Nat) (k : Int) (w : World) (hc : w.cell? ⟨bk, 1, none⟩ = some (.iface 57 (.int .i64 k))) (h1 : 1 ≤ k) (h15 : k ≤ 15) :
    Calls Tryd.prog 11 #[.iface 51 (.pointer (some ⟨bk, 0, none⟩))] w fun e w' => e = .returned (.int .i64 k) ∧ w = w' := by
  go_enter Tryd.func11, Tryd.ntmps11
  go_wp2
  go_loop [3] (fun i => ∃ n : Int, 1 ≤ n ∧ n ≤ k ∧ i = .int .i64 n) (fun i => (20 - intOf i).toNat)
  case atStart => exact ⟨1, by omega, by omega, rfl⟩
  case round =>
    obtain ⟨n, hn1, hn2, rfl⟩ := hrel
    by_cases hk : n = k
    · subst hk
      have hb : (n == n) = true := by simp
      go_wp2_with (go_at_call 28; refine (is_fault bk _ _ _ hc).mono ?_; rintro e w' ⟨rfl, rfl⟩)
      go_ret
      exact ⟨rfl, rfl⟩
    · have hb : (k == n) = false := by simp; omega
      clear hk
      go_wp2_with (go_at_call 28; refine (is_fault bk _ _ _ hc).mono ?_; rintro e w' ⟨rfl, rfl⟩)
      all_goals
        go_round
        case rel => exact ⟨n + 1, by omega, by have := (beq_eq_false_iff_ne.1 hb); omega, rfl⟩
        case measure => simp [intOf]; omega

/-- an error value: its number (0: nil), the place of the fault that it is (-1: none) -/
def ErrIs (w : World) (v : Value) (c a : Int) : Prop :=
  (v = .nilIface ∧ c = 0 ∧ a = -1) ∨ (v = .iface 57 (.int .i64 c) ∧ 1 ≤ c ∧ c ≤ 15 ∧ a = -1) ∨
  ∃ b, v = .iface 51 (.pointer (some ⟨b, 0, none⟩)) ∧ 1 ≤ c ∧ c ≤ 15 ∧ w.cell? ⟨b, 0, none⟩ = some (.int .i64 a) ∧ w.cell? ⟨b, 1, none⟩ = some (.iface 57 (.int .i64 c))
theorem cell_lt {w : World} {b o : Nat} {v : Value} (h : w.cell? ⟨b, o, none⟩ = some v) : b < w.heap.size := by
  rcases Nat.lt_or_ge b w.heap.size with h' | h'
  · exact h'
  · simp [World.cell?, Array.getElem?_eq_none h'] at h
theorem ErrIs.below {w w1 : World} {v : Value} {c a : Int} (h : ErrIs w v c a) (hb : Below w.heap.size w w1) : ErrIs w1 v c a := by
  rcases h with h | h | ⟨b, h, h1, h2, h3, h4⟩
  · exact .inl h
  · exact .inr (.inl h)
  · exact .inr (.inr ⟨b, h, h1, h2, (hb.cell (p := ⟨b, _, none⟩) (cell_lt h3)).trans h3, (hb.cell (p := ⟨b, _, none⟩) (cell_lt h4)).trans h4⟩)

theorem code_err (v : Value) (c a : Int) (w : World) (h : ErrIs w v c a) :
    Calls Tryd.prog 11 #[v] w fun e w' => e = .returned (.int .i64 c) ∧ w = w' := by
  rcases h with ⟨rfl, rfl, _⟩ | ⟨rfl, h1, h2, _⟩ | ⟨b, rfl, h1, h2, h3, h4⟩
  · exact code_nil w
  · exact code_errno c w h1 h2
  · exact code_fault b c w h4 h1 h2

set_option maxHeartbeats 1000000 in
theorem at_err (v : Value) (c a : Int) (w : World) (h : ErrIs w v c a) (hg : ErrT w) :
    Calls Tryd.prog 12 #[v] w fun e w' => e = .returned (.int .i64 a) ∧ Below w.heap.size w w' := by
  have hbA : Below w.heap.size w (w.alloc (.cells #[.pointer none] 51)) := (Below.refl _ _).alloc (Nat.le_refl _) _
  have hgA := hg.below hbA
  have hsA : (w.alloc (.cells #[.pointer none] 51)).heap.size = w.heap.size + 1 := by simp
  rcases h with ⟨rfl, _, rfl⟩ | ⟨rfl, h1, h2, rfl⟩ | ⟨b, rfl, h1, h2, h3, h4⟩
  · go_enter Tryd.func12, Tryd.ntmps12
    go_wp2_with fail
    refine (as_nil _ _).mono ?_
    rintro e w' ⟨rfl, rfl⟩
    go_wp2
    go_ret
    exact ⟨rfl, hbA⟩
  · go_enter Tryd.func12, Tryd.ntmps12
    go_wp2_with fail
    refine (as_errno c _ _ hgA).mono ?_
    rintro e w' ⟨rfl, hb2⟩
    go_wp2
    go_ret
    exact ⟨rfl, hbA.trans (hb2.mono (by omega))⟩
  · have hb3 := cell_lt h3
    have h5 := (hbA.cell (p := ⟨b, _, none⟩) hb3).trans h3
    have hne : b ≠ w.heap.size := by omega
    go_enter Tryd.func12, Tryd.ntmps12
    go_wp2_with fail
    refine (as_fault ⟨b, 0, none⟩ ⟨w.heap.size, 0, none⟩ (.pointer none) _ hgA (by simp) (by simp)).mono ?_
    rintro e w' ⟨rfl, hw'⟩
    have hb' : Below w.heap.size w w' := by rw [← hw']; go_grown
    have c1 : w'.cell? ⟨w.heap.size, 0, none⟩ = some (.pointer (some ⟨b, 0, none⟩)) := by
      rw [← hw']
      refine World.cell?_setCell_same (w := _) (u := .pointer none) (h := ?_) ..
      have e0 : ∀ (W : World) (o : Obj) (v : Value), W.cell? ⟨w.heap.size, 0, none⟩ = some v → (W.alloc o).cell? ⟨w.heap.size, 0, none⟩ = some v := fun W o v h => (World.cell?_alloc_lt _ _ ⟨w.heap.size, 0, none⟩ (cell_lt h)).trans h
      exact e0 _ _ _ (e0 _ _ _ (e0 _ _ _ (e0 _ _ _ (by simp))))
    have c2 := (hb'.cell (p := ⟨b, _, none⟩) hb3).trans h3
    clear hw' h5
    go_wp2
    go_ret
    exact ⟨rfl, hb'⟩
end Go.Proofs.YtonphamahnagfaaDoor

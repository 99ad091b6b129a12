/-
  The walk of catchboltlaw19.ScriptReads: it answers true at whatever bytes. No conditions.
-/
import Derived.Test.YtkmmhdghkbleaaaEntRow
namespace Go.Proofs.Ytkmmhdghkbleaaa
open Go.ChangeShapes Go.WideShapes Go.ChangeAt Go.RowKit
set_option linter.unusedVariables false

/-- the slice value (A, its length) holds the entries es -/
def RdE (w : World) (A : Option Addr) (es : List Ent) : Prop :=
  ∃ g, (0 < es.length → A = some ⟨g, 0, none⟩ ∧ g < w.heap.size) ∧ ∀ i, i < es.length → Cells6 w g (6 * i) (es.getD i Ent.none)
theorem RdE.below {w w1 : World} {A : Option Addr} {es : List Ent} (h : RdE w A es) (hb : Below w.heap.size w w1) : RdE w1 A es := by
  obtain ⟨g, hA, hc⟩ := h
  exact ⟨g, fun hn => ⟨(hA hn).1, Nat.lt_of_lt_of_le (hA hn).2 hb.size⟩, fun i hi => (hc i hi).below hb (hA (by omega)).2⟩
theorem rde_of_own {w : World} {B : Nat} {T : TypeId} {v : Value} {es : List Ent} (h : w.ownsRow B T 6 v es.length (flat es)) : ∃ A cap, v = .slice A es.length cap ∧ es.length ≤ cap ∧ RdE w A es := by
  rcases own_ents h with ⟨rfl, rfl⟩ | ⟨g, cap, rfl, _, hg, hcap, hc⟩
  · exact ⟨none, 0, rfl, Nat.le_refl _, 0, fun h => by simp at h, fun i hi => by simp at hi⟩
  · exact ⟨_, cap, rfl, hcap, g, fun _ => ⟨rfl, hg⟩, hc⟩

theorem byte_info : (Try.prog.info? 5).map (fun i => (i.zero, i.size, i.bytes)) = some (some (.int .u8 0), 1, 1) := by kernel_rfl

theorem RdB.below {w w1 : World} {A : Option Addr} {n : Nat} {bs : List Int} (h : RdB w A n bs) (hb : Below w.heap.size w w1) : RdB w1 A n bs := by
  obtain ⟨hl, hw, b, off, hA, hc⟩ := h
  refine ⟨hl, hw, b, off, fun hn => ⟨(hA hn).1, Nat.lt_of_lt_of_le (hA hn).2 hb.size⟩, fun i hi => ?_⟩
  exact (hb.cell (p := ⟨b, _, none⟩) (hA (by omega)).2).trans (hc i hi)

def bytesV (bs : List Int) : List Value := bs.map (Value.int .u8)

theorem rdb_of_own {w : World} {B : Nat} {v : Value} {n : Nat} {bs : List Int} (h : w.ownsRow B 5 1 v n (bytesV bs)) (hw : ∀ i, 0 ≤ bs.getD i 0 ∧ bs.getD i 0 ≤ 255) :
    ∃ A cap, v = .slice A n cap ∧ n ≤ cap ∧ RdB w A n bs := by
  have hl : bs.length = n := by have := h.1; simp [bytesV] at this; exact this
  rcases h.2 with ⟨rfl, h0⟩ | ⟨g, cap, cur, rfl, hg, hh, hc, _⟩
  · exact ⟨none, 0, by rw [h0], by omega, hl, hw, 0, 0, fun hn => by omega, fun i hi => by omega⟩
  · refine ⟨_, cap, rfl, hc, hl, hw, g, 0, fun _ => ⟨rfl, (Array.getElem?_eq_some_iff.1 hh).1⟩, fun i hi => ?_⟩
    have := h.cells (g := g) rfl i (.int .u8 (bs.getD i 0)) (by
      unfold bytesV
      rw [List.getElem?_map, List.getD_eq_getElem?_getD, List.getElem?_eq_getElem (by omega)]; rfl)
    rw [add0] at this
    rw [Nat.zero_add]; exact this

theorem run_append_bytes (B : Nat) (v : Value) (k : Nat) (xs : List Value) (w : World) (hown : w.ownsRow B 5 1 v k xs) (A : Option Addr) (n c : Nat) (bs : List Int) (h : RdB w A n bs) (hB : B ≤ w.heap.size) (hk : k + n ≤ 1000000) :
    ∃ v' w', (Builtin.append_ #[22, 22] 22 #[v, .slice A n c]).run Try.prog w = .ok v' w' ∧ w'.ownsRow B 5 1 v' (k + n) (xs ++ bytesV bs) ∧ w.grownBy w' v.ownBlock := by
  obtain ⟨i0, hi0, hz0, hz1, hz2⟩ := info_parts byte_info
  obtain ⟨hl, hw, b, off, hA, hc⟩ := h
  cases A with
  | none =>
    have hn : n = 0 := by
      rcases Nat.eq_zero_or_pos n with h | h
      · exact h
      · cases (hA h).1
    subst hn
    have hb : bs = [] := List.eq_nil_of_length_eq_zero hl
    subst hb
    refine ⟨v, w, ?_, by simpa [bytesV] using hown, World.grownBy.refl w _⟩
    rcases hown.2 with ⟨rfl, rfl⟩ | ⟨g, cap, cur, rfl, _, _, hnc, _⟩
    · simp [Builtin.append_, run_underlying Try.underlying22, sizeOf, typeInfo, hi0, Builtin.lenOf, Builtin.firstCells]
    · simp [Builtin.append_, run_underlying Try.underlying22, sizeOf, typeInfo, hi0, Builtin.lenOf, Builtin.firstCells, hnc, storeCells]
  | some ad =>
    obtain ⟨v', w', hrun, h2, h3, _⟩ := run_append_own (P := Try.prog) w B 22 22 5 i0 _ 1 1 Try.underlying22 hi0 hz0 hz1 hz2 rfl (by decide) v k xs hown ad n c (bytesV bs) (by simp [bytesV, hl])
      (fun j u hu => by
        unfold bytesV at hu
        rw [List.getElem?_map] at hu
        have hj : j < bs.length := by
          rcases Nat.lt_or_ge j bs.length with h | h
          · exact h
          · rw [List.getElem?_eq_none h] at hu; cases hu
        rw [List.getElem?_eq_getElem hj] at hu
        have := (hA (by omega)).1
        cases this
        have e : (⟨b, off, none⟩ : Addr).add j = ⟨b, off + j, none⟩ := by unfold Addr.add; by_cases h : j = 0 <;> simp [h]
        rw [e, hc j (by omega), List.getD_eq_getElem?_getD, List.getElem?_eq_getElem hj]; exact hu)
      (by simp [bytesV, Value.oneCell']) (by unfold maxLen; omega) (by omega) hB
    exact ⟨v', w', hrun, h2, h3⟩

/-- the empty slice that 'make' or a literal has just laid -/
theorem own_empty (w : World) (e : TypeId) (s : Nat) : (w.alloc (.cells #[] e)).ownsRow w.heap.size e s (.slice (some ⟨w.heap.size, 0, none⟩) 0 0) 0 [] :=
  ⟨by simp, .inr ⟨w.heap.size, 0, #[], rfl, Nat.le_refl _, heap_alloc_new w _, Nat.le_refl _, by unfold maxLen; omega, by simp, by simp⟩⟩

theorem wpList_append_bytes {ops : Array Oper} {rest : List Oper} {o : Oper} {a : Act} {Q : Exit → Act → World → Prop} {w : World} (hgd : o.guard = none) (s x : Operand)
    (ho : o.op = .call { callee := .builtin .append, args := #[s, x], argTypes := #[22, 22] }) (hty : o.type = 22)
    (B : Nat) (v : Value) (k : Nat) (xs : List Value) (hs : a.eval s = v) (hown : w.ownsRow B 5 1 v k xs) (A : Option Addr) (n c : Nat) (bs : List Int) (hx : a.eval x = .slice A n c) (h : RdB w A n bs) (hB : B ≤ w.heap.size) (hk : k + n ≤ 1000000)
    (hc : ∀ v' w', w'.ownsRow B 5 1 v' (k + n) (xs ++ bytesV bs) → w.grownBy w' v.ownBlock → wpList Try.prog ops Q rest (a.put o.dst v') w') : wpList Try.prog ops Q (o :: rest) a w := by
  refine wpList_plain hgd fun K hK => ?_
  obtain ⟨v', w', hrun, h2, h3⟩ := run_append_bytes B v k xs w hown A n c bs h hB hk
  unfold Oper.wp execOp
  simp only [ho, hty, resolve, invoke, builtin, Sem.run_bind, Sem.run_pure, Result.andThen_ok, List.map_toArray, List.map_cons, List.map_nil, hs, hx, hrun]
  exact hK _ _ (hc v' w' h2 h3)

set_option maxRecDepth 100000 in
set_option maxHeartbeats 4000000 in
theorem reads_true (A : Option Addr) (n cap : Nat) (bs : List Int) (w : World) (h : RdB w A n bs) (hm : n ≤ 5000) (hcap : n ≤ cap) :
    Calls Try.prog 3 #[.slice A n cap] w fun e w' => e = .returned (.bool true) ∧ Below w.heap.size w w' := by
  have hm' : ¬ (5000 : Int) < n := by omega
  go_enter Try.func3, Try.ntmps3
  go_wp2_with fail
  refine (alive_true _).mono ?_
  rintro e w1 ⟨rfl, hb1⟩
  have h1 := h.below hb1
  have hE := own_empty w1 5 1
  have h1' := h1.below ((Below.refl _ _).alloc (Nat.le_refl _) (.cells #[] 5))
  go_wp2_with (at_builtin; refine wpList_append_bytes rfl _ _ rfl rfl w1.heap.size _ 0 [] rfl hE A n cap bs rfl h1' (by simp) (by omega) ?_; intro v2 w2 hown2 hg2; obtain ⟨A2, cap2, rfl, hcap2, h2⟩ := rdb_of_own (by simpa using hown2) h.2.1; clear hown2)
  have hb2 : Below w1.heap.size w1 w2 := Below.grown ((Below.refl w1.heap.size w1).alloc (Nat.le_refl _) _) hg2 (by simp) (fun k hk => by cases hk; exact Nat.le_refl _)
  refine (parse_any A2 n cap2 bs w2 h2 (by omega) hcap2).mono ?_
  rintro e w3 ⟨⟨v3, rfl, hown3⟩, hb3⟩
  go_wp2_with fail
  have h3 := ((h1.below hb2).below hb3)
  refine (rparse_any A n cap bs w3 h3 (by omega)).mono ?_
  rintro e w4 ⟨⟨v4, rfl, hown4⟩, hb4⟩
  have hs1 := hb1.size
  have hs2 := hb2.size
  have hs3 := hb3.size
  have hs4 := hb4.size
  have hB4 : Below w.heap.size w w4 := ((hb1.trans (hb2.mono hs1)).trans (hb3.mono (by omega))).trans (hb4.mono (by omega))
  obtain ⟨A3, c3, rfl, _, r3⟩ := rde_of_own hown3
  obtain ⟨A4, c4, rfl, _, r4⟩ := rde_of_own hown4
  have r3' := r3.below hb4
  have hN : (parsed bs).length ≤ 5000 := by rw [parsed_length]; have := h.1; omega
  generalize parsed bs = es at *
  obtain ⟨N, hNe⟩ : ∃ N, es.length = N := ⟨_, rfl⟩
  have HN := Lib.hid hNe
  rw [hNe] at hN
  simp only [hNe]
  clear hown3 hown4 r3 hNe h2 h3 h1 h1' h hE
  go_wp2
  go_loopw [5] (fun i wr => ∃ k : Nat, k ≤ N ∧ i = .int .i64 k ∧ Below w4.heap.size w4 wr) (fun i _ => N - (intOf i).toNat)
  case atStart => exact ⟨0, by omega, rfl, Below.refl _ _⟩
  case round =>
    obtain ⟨k, hk, rfl, hbr⟩ := hrel
    by_cases hlt : k < N
    · have hlt' : (k : Int) < N := by omega
      have hk0 : (0 : Int) ≤ k := by omega
      obtain ⟨g3, hA3, hc3⟩ := r3'.below hbr
      obtain ⟨g4, hA4, hc4⟩ := r4.below hbr
      obtain ⟨rfl, hg3⟩ := hA3 (by rw [HN.out]; omega)
      obtain ⟨rfl, hg4⟩ := hA4 (by rw [HN.out]; omega)
      obtain ⟨p0, p1, p2, p3, p4, p5⟩ := hc3 k (by rw [HN.out]; exact hlt)
      obtain ⟨q0, q1, q2, q3, q4, q5⟩ := hc4 k (by rw [HN.out]; exact hlt)
      clear hc3 hc4 hA3 hA4 r3' r4
      generalize es.getD k Ent.none = E at *
      obtain ⟨ek, ec, et, er, em, ep⟩ := E
      simp only at p0 p1 p2 p3 p4 p5 q0 q1 q2 q3 q4 q5
      rw [Nat.mul_comm 6 k] at p0 p1 p2 p3 p4 p5 q0 q1 q2 q3 q4 q5
      go_wp2
      go_region_held3 (fun w' => (w'.cell? ⟨g3, k * 6, none⟩ = some (.int .i64 ek) ∧ w'.cell? ⟨g3, k * 6 + 1, none⟩ = some (.int .i64 ec) ∧ w'.cell? ⟨g3, k * 6 + 2, none⟩ = some (.int .i64 et) ∧ w'.cell? ⟨g3, k * 6 + 3, none⟩ = some (.int .i64 er) ∧ w'.cell? ⟨g3, k * 6 + 4, none⟩ = some (.int .i64 em) ∧ w'.cell? ⟨g3, k * 6 + 5, none⟩ = some (.int .i64 ep)) ∧
          (w'.cell? ⟨g4, k * 6, none⟩ = some (.int .i64 ek) ∧ w'.cell? ⟨g4, k * 6 + 1, none⟩ = some (.int .i64 ec) ∧ w'.cell? ⟨g4, k * 6 + 2, none⟩ = some (.int .i64 et) ∧ w'.cell? ⟨g4, k * 6 + 3, none⟩ = some (.int .i64 er) ∧ w'.cell? ⟨g4, k * 6 + 4, none⟩ = some (.int .i64 em) ∧ w'.cell? ⟨g4, k * 6 + 5, none⟩ = some (.int .i64 ep)))
        (first
          | go_keep)
        (first | (go_at_call 9; refine (plain_any ek ec et er em ep _).mono ?_; rintro e w5 ⟨rfl, rfl⟩))
      go_wp2
      go_roundw
      case rel => exact ⟨k + 1, by omega, by go_num, by first | exact ((Below.drew hbr).alloc hbr.size _).alloc (by simp; have := hbr.size; omega) _ | exact ((hbr.alloc hbr.size _).alloc (by simp; have := hbr.size; omega) _).drew⟩
      case measure => simp [intOf]; omega
    · have hk' : k = N := by omega
      subst hk'
      have hge : ¬ (k : Int) < k := by omega
      go_wp2
      go_ret
      exact ⟨rfl, hB4.trans (hbr.mono (by omega))⟩
end Go.Proofs.Ytkmmhdghkbleaaa

/-
  Rows of entries that begin anywhere; what ScriptBack does beyond its bounds. No conditions.
-/
import Derived.Test.YtkmmhdghkbleaaaDoorEncD
namespace Go.Proofs.YtkmmhdghkbleaaaDoor
open Go.ChangeShapes Go.WideShapes Go.ChangeAt Go.RowKit
set_option linter.unusedVariables false

/-- the slice value (A, its length) holds the entries es, wherever it begins -/
def RdEo (w : World) (A : Option Addr) (es : List Ent) : Prop :=
  ∃ g off, (0 < es.length → A = some ⟨g, off, none⟩ ∧ g < w.heap.size) ∧ ∀ i, i < es.length → Cells6 w g (off + i * 6) (es.getD i Ent.none)
theorem RdEo.below {w w1 : World} {A : Option Addr} {es : List Ent} (h : RdEo w A es) (hb : Below w.heap.size w w1) : RdEo w1 A es := by
  obtain ⟨g, off, hA, hc⟩ := h
  exact ⟨g, off, fun hn => ⟨(hA hn).1, Nat.lt_of_lt_of_le (hA hn).2 hb.size⟩, fun i hi => (hc i hi).below hb (hA (by omega)).2⟩
theorem rdeo_nil (w : World) (A : Option Addr) : RdEo w A [] := ⟨0, 0, fun h => by simp at h, fun i h => by simp at h⟩
theorem rdeo_one (w : World) (ek ec et er em ep : Int) (T : TypeId) : RdEo (w.alloc (.cells #[.int .i64 ek, .int .i64 ec, .int .i64 et, .int .i64 er, .int .i64 em, .int .i64 ep] T)) (some ⟨w.heap.size, 0, none⟩) [⟨ek, ec, et, er, em, ep⟩] :=
  ⟨w.heap.size, 0, fun _ => ⟨rfl, by simp⟩, fun i hi => by
    obtain rfl : i = 0 := by simpa using hi
    unfold Cells6; simp⟩

set_option maxHeartbeats 1000000 in
theorem of_any (k c t r m p : Int) (w : World) :
    Calls Tryd.prog 5 #[.agg #[.int .i64 k, .int .i64 c, .int .i64 t, .int .i64 r, .int .i64 m, .int .i64 p]] w fun e w' => e = .returned (.agg #[.int .i64 k, .int .i64 c, .int .i64 t, .int .i64 r, .int .i64 m, .int .i64 p]) ∧ Below w.heap.size w w' := by
  go_enter Tryd.func5, Tryd.ntmps5
  go_wp2
  go_returns
  exact ⟨rfl, by go_grown⟩

theorem run_append_ents (B : Nat) (v : Value) (k : Nat) (xs : List Value) (w : World) (hown : w.ownsRow B 30 6 v k xs) (ad : Addr) (n c : Nat) (bs : List Ent) (hl : bs.length = n) (h : RdEo w (some ad) bs) (hB : B ≤ w.heap.size) (hk : k + n ≤ 1000000) :
    ∃ v' w', (Builtin.append_ #[24, 24] 24 #[v, .slice (some ad) n c]).run Tryd.prog w = .ok v' w' ∧ w'.ownsRow B 30 6 v' (k + n) (xs ++ flat bs) ∧ w.grownBy w' v.ownBlock := by
  obtain ⟨i0, hi0, hz0, hz1, hz2⟩ := info_parts ent_info
  obtain ⟨b, off, hA, hc⟩ := h
  obtain ⟨v', w', hrun, h2, h3, _⟩ := run_append_own (P := Tryd.prog) w B 24 24 30 i0 _ 6 48 Tryd.underlying24 hi0 hz0 hz1 hz2 rfl (by decide) v k xs hown ad n c (flat bs) (by rw [flat_length, hl])
    (fun j u hu => by
      have hj : j < n * 6 := by
        rcases Nat.lt_or_ge j (flat bs).length with h | h
        · rw [flat_length, hl] at h; exact h
        · rw [List.getElem?_eq_none h] at hu; cases hu
      have hq : j / 6 < bs.length := by omega
      have := (hA (by omega)).1
      cases this
      have e : (⟨b, off, none⟩ : Addr).add j = ⟨b, off + j, none⟩ := by unfold Addr.add; by_cases h : j = 0 <;> simp [h]
      have hg := flat_get bs (j / 6) (j % 6) hq (by omega)
      rw [show 6 * (j / 6) + j % 6 = j from by omega, hu] at hg
      obtain ⟨c0, c1, c2, c3, c4, c5⟩ := hc (j / 6) hq
      rw [e]
      have h4 : j % 6 = 0 ∨ j % 6 = 1 ∨ j % 6 = 2 ∨ j % 6 = 3 ∨ j % 6 = 4 ∨ j % 6 = 5 := by omega
      rcases h4 with h4 | h4 | h4 | h4 | h4 | h4 <;> rw [h4] at hg <;> rw [hg]
      · rw [show off + j = off + j / 6 * 6 from by omega, c0]; rfl
      · rw [show off + j = off + j / 6 * 6 + 1 from by omega, c1]; rfl
      · rw [show off + j = off + j / 6 * 6 + 2 from by omega, c2]; rfl
      · rw [show off + j = off + j / 6 * 6 + 3 from by omega, c3]; rfl
      · rw [show off + j = off + j / 6 * 6 + 4 from by omega, c4]; rfl
      · rw [show off + j = off + j / 6 * 6 + 5 from by omega, c5]; rfl)
    (by intro u hu; obtain ⟨x, _, hx⟩ := List.mem_flatMap.1 hu; exact cells_one x u hx) (by unfold maxLen; omega) (by omega) hB
  exact ⟨v', w', hrun, h2, h3⟩

theorem wpList_append_ents {ops : Array Oper} {rest : List Oper} {o : Oper} {a : Act} {Q : Exit → Act → World → Prop} {w : World} (hgd : o.guard = none) (s x : Operand)
    (ho : o.op = .call { callee := .builtin .append, args := #[s, x], argTypes := #[24, 24] }) (hty : o.type = 24)
    (B : Nat) (v : Value) (k : Nat) (xs : List Value) (hs : a.eval s = v) (hown : w.ownsRow B 30 6 v k xs) (ad : Addr) (n c : Nat) (bs : List Ent) (hl : bs.length = n) (hx : a.eval x = .slice (some ad) n c) (h : RdEo w (some ad) bs) (hB : B ≤ w.heap.size) (hk : k + n ≤ 1000000)
    (hc : ∀ v' w', w'.ownsRow B 30 6 v' (k + n) (xs ++ flat bs) → w.grownBy w' v.ownBlock → wpList Tryd.prog ops Q rest (a.put o.dst v') w') : wpList Tryd.prog ops Q (o :: rest) a w := by
  refine wpList_plain hgd fun K hK => ?_
  obtain ⟨v', w', hrun, h2, h3⟩ := run_append_ents B v k xs w hown ad n c bs hl h hB hk
  unfold Oper.wp execOp
  simp only [ho, hty, resolve, invoke, builtin, Sem.run_bind, Sem.run_pure, Result.andThen_ok, List.map_toArray, List.map_cons, List.map_nil, hs, hx, hrun]
  exact hK _ _ (hc v' w' h2 h3)

theorem encode_n (A : Option Addr) (n cap : Nat) (es : List Ent) (w : World) (h : RdE w A es) (hn : es.length = n) (hm : n ≤ 100000) :
    Calls Tryd.prog 8 #[.slice A n cap] w fun e w' => EncOf w w' es e ∧ Below w.heap.size w w' := by
  subst hn; exact encode_any A cap es w h hm

theorem take_snocE {es : List Ent} {k : Nat} {E : Ent} (h : k < es.length) (hE : es.getD k Ent.none = E) : es.take (k + 1) = es.take k ++ [E] := by rw [take_snoc h, hE]

end Go.Proofs.YtkmmhdghkbleaaaDoor

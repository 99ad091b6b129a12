/-
  script.Encode: the bytes of entries that may be, or the place of the first that may not. No other conditions.
-/
import Derived.Test.YtkmmhdghkbleaaaDoorBackF
import Derived.Test.YtkmmhdghkbleaaaDoorReadsEndD
namespace Go.Proofs.YtkmmhdghkbleaaaDoor
open Go.ChangeShapes Go.WideShapes Go.ChangeAt Go.RowKit
set_option linter.unusedVariables false

theorem own_below {w w' : World} {B : Nat} {e : TypeId} {s n : Nat} {v : Value} {xs : List Value} (h : w.ownsRow B e s v n xs) (hb : Below w.heap.size w w') : w'.ownsRow B e s v n xs := by
  obtain ⟨h1, h2⟩ := h
  refine ⟨h1, ?_⟩
  rcases h2 with h | ⟨g, cap, cur, hv, hg, hh, r⟩
  · exact .inl h
  · exact .inr ⟨g, cap, cur, hv, hg, (hb.block g (Array.getElem?_eq_some_iff.1 hh).1).trans hh, r⟩

theorem five_rdb {w w' : World} {v : Value} {a b c d e : Int} (h : Five w w' v a b c d e) (hr : ∀ i, 0 ≤ [a, b, c, d, e].getD i 0 ∧ [a, b, c, d, e].getD i 0 ≤ 255) : ∃ A, v = .slice A 5 5 ∧ RdB w' A 5 [a, b, c, d, e] := by
  obtain ⟨g, rfl, _, hg, h0, h1, h2, h3, h4⟩ := h
  refine ⟨_, rfl, rfl, hr, g, 0, fun _ => ⟨rfl, hg⟩, fun i hi => ?_⟩
  match i with
  | 0 => exact h0
  | 1 => exact h1
  | 2 => exact h2
  | 3 => exact h3
  | 4 => exact h4
  | i + 5 => omega

set_option maxHeartbeats 1000000 in
theorem write_any (k c t r m p : Int) (w : World) (h : (⟨k, c, t, r, m, p⟩ : Ent).ok = true) :
    Calls Tryd.prog 15 #[.agg #[.int .i64 k, .int .i64 c, .int .i64 t, .int .i64 r, .int .i64 m, .int .i64 p]] w fun e w' => (∃ A, e = .returned (.slice A 5 5) ∧ RdB w' A 5 (⟨k, c, t, r, m, p⟩ : Ent).wr) ∧ Below w.heap.size w w' := by
  have hr := wr_range h
  have hc := ok_cases h
  clear h
  unfold Ent.wr at hr ⊢
  simp only at hr ⊢
  by_cases h7 : 7 ≤ k
  · rw [if_pos h7] at hr ⊢
    obtain ⟨rfl, rfl, rfl, rfl⟩ : c = 0 ∧ t = 0 ∧ r = 0 ∧ m = 0 := by omega
    refine (write_p k p w (by omega) (by omega)).mono ?_
    rintro e w1 ⟨⟨v, rfl, h5⟩, hb⟩
    obtain ⟨A, rfl, hR⟩ := five_rdb h5 hr
    exact ⟨⟨A, rfl, hR⟩, hb⟩
  · rw [if_neg h7] at hr ⊢
    rcases hc with hc | hc | hc | hc
    · obtain ⟨rfl, rfl⟩ : k = 3 ∧ p = 0 := by omega
      refine (write_3 c t r m w (by omega) (by omega) (by omega) (by omega)).mono ?_
      rintro e w1 ⟨⟨v, rfl, h5⟩, hb⟩
      obtain ⟨A, rfl, hR⟩ := five_rdb h5 hr
      exact ⟨⟨A, rfl, hR⟩, hb⟩
    · obtain ⟨rfl, rfl, rfl, rfl⟩ : t = 0 ∧ r = 0 ∧ m = 0 ∧ p = 0 := by omega
      refine (write_c k c w (by omega) (by omega)).mono ?_
      rintro e w1 ⟨⟨v, rfl, h5⟩, hb⟩
      obtain ⟨A, rfl, hR⟩ := five_rdb h5 hr
      exact ⟨⟨A, rfl, hR⟩, hb⟩
    · obtain ⟨rfl, rfl, rfl, rfl, rfl⟩ : c = 0 ∧ t = 0 ∧ r = 0 ∧ m = 0 ∧ p = 0 := by omega
      refine (write_0 k w (by omega)).mono ?_
      rintro e w1 ⟨⟨v, rfl, h5⟩, hb⟩
      obtain ⟨A, rfl, hR⟩ := five_rdb h5 hr
      exact ⟨⟨A, rfl, hR⟩, hb⟩
    · omega

/-- what Encode answers: the bytes, or the first place at which an entry may not be -/
def EncOf (w w' : World) (es : List Ent) (e : Ending) : Prop :=
  ((∀ x ∈ es, x.ok = true) ∧ ∃ v, e = .returned (.tuple #[v, .nilIface]) ∧ w'.ownsRow w.heap.size 5 1 v (5 * es.length) (bytesV (wrs es))) ∨
  ∃ i g, i < es.length ∧ (es.getD i Ent.none).ok = false ∧ (∀ j, j < i → (es.getD j Ent.none).ok = true) ∧ e = .returned (.tuple #[.slice none 0 0, .iface 47 (.pointer (some ⟨g, 0, none⟩))]) ∧
    w.heap.size ≤ g ∧ g < w'.heap.size ∧ w'.cell? ⟨g, 0, none⟩ = some (.int .i64 i) ∧ w'.cell? ⟨g, 1, none⟩ = some (.iface 48 (.int .i64 5))

theorem ok_all {es : List Ent} (h : ∀ j, j < es.length → (es.getD j Ent.none).ok = true) : ∀ x ∈ es, x.ok = true := by
  intro x hx
  obtain ⟨j, hj, rfl⟩ := List.getElem_of_mem hx
  have := h j hj
  rwa [List.getD_eq_getElem?_getD, List.getElem?_eq_getElem hj] at this
theorem take_snoc {es : List Ent} {k : Nat} (h : k < es.length) : es.take (k + 1) = es.take k ++ [es.getD k Ent.none] := by
  rw [List.take_add_one, List.getElem?_eq_getElem h, List.getD_eq_getElem?_getD, List.getElem?_eq_getElem h]; rfl

set_option maxRecDepth 100000 in
set_option maxHeartbeats 4000000 in
theorem encode_any (A : Option Addr) (cap : Nat) (es : List Ent) (w : World) (h : RdE w A es) (hm : es.length ≤ 100000) :
    Calls Tryd.prog 8 #[.slice A es.length cap] w fun e w' => EncOf w w' es e ∧ Below w.heap.size w w' := by
  obtain ⟨N, hNe⟩ : ∃ N, es.length = N := ⟨_, rfl⟩
  have HN := Lib.hid hNe
  rw [hNe] at hm
  simp only [hNe]
  clear hNe
  go_enter Tryd.func8, Tryd.ntmps8
  go_wp2
  go_loopw [4, 9] (fun o i wr => ∃ k : Nat, k ≤ N ∧ i = .int .i64 k ∧ wr.ownsRow w.heap.size 5 1 o (5 * k) (bytesV (wrs (es.take k))) ∧ (∀ j, j < k → (es.getD j Ent.none).ok = true) ∧ Below w.heap.size w wr) (fun _ i _ => N - (intOf i).toNat)
  case atStart => exact ⟨0, by omega, rfl, World.ownsRow_nil _ _ _ _, fun j hj => by omega, Below.refl _ _⟩
  case round =>
    obtain ⟨k, hk, rfl, hown, hok, hbr⟩ := hrel
    by_cases hlt : k < N
    · have hlt' : (k : Int) < N := by omega
      have hk0 : (0 : Int) ≤ k := by omega
      have hsr := hbr.size
      obtain ⟨g3, hA3, hc3⟩ := h.below hbr
      obtain ⟨rfl, hg3⟩ := hA3 (by rw [HN.out]; omega)
      obtain ⟨p0, p1, p2, p3, p4, p5⟩ := hc3 k (by rw [HN.out]; exact hlt)
      clear hc3 hA3
      have HT := Lib.hid (take_snoc (es := es) (k := k) (by rw [HN.out]; exact hlt))
      have HE := Lib.hid (show ∀ j, j < k + 1 → (es.getD j Ent.none).ok = true ∨ j = k from fun j hj => by
        rcases Nat.lt_or_ge j k with h | h
        · exact .inl (hok j h)
        · exact .inr (by omega))
      generalize hEE : es.getD k Ent.none = E at *
      obtain ⟨ek, ec, et, er, em, ep⟩ := E
      simp only at p0 p1 p2 p3 p4 p5
      rw [Nat.mul_comm 6 k] at p0 p1 p2 p3 p4 p5
      have hown' := hown.alloc (.cells #[.int .i64 ek, .int .i64 ec, .int .i64 et, .int .i64 er, .int .i64 em, .int .i64 ep] 30)
      go_wp2_with fail
      refine (entok_any ek ec et er em ep _).mono ?_
      rintro e w5 ⟨rfl, hb5⟩
      obtain ⟨kc, kf, kz⟩ := belowK hb5 (K := wr.heap.size + 1) (by simp)
      have hb5' : Below w.heap.size w w5 := (hbr.alloc hsr _).trans (hb5.mono (by simp; omega))
      have own5 := own_below hown' hb5
      rcases hB : entB ek ec et er em ep with _ | _
      · go_wp2
        go_returns
        refine ⟨.inr ⟨k, w5.heap.size, by rw [HN.out]; exact hlt, by rw [hEE]; exact hB, hok, rfl, by have := hb5'.size; omega, by simp, by simp, by simp⟩, hb5'.alloc (by have := hb5'.size; omega) _⟩
      · go_wp2_with fail
        refine (write_any ek ec et er em ep w5 hB).mono ?_
        rintro e w6 ⟨⟨A6, rfl, hR6⟩, hb6⟩
        have own6 := own_below own5 hb6
        have hs5 := hb5'.size
        have hb6' : Below w.heap.size w w6 := hb5'.trans (hb6.mono hs5)
        have hs6 := hb6'.size
        go_wp2_with (at_builtin; refine wpList_append_bytes rfl _ _ rfl rfl w.heap.size _ _ _ rfl own6 A6 5 5 _ rfl hR6 hs6 (by omega) ?_; intro v7 w7 hown7 hg7)
        go_roundw
        case rel =>
          refine ⟨k + 1, by omega, by go_num, ?_, fun j hj => ?_, ?_⟩
          · rw [HT.out, wrs_snoc, show 5 * (k + 1) = 5 * k + 5 from by omega]
            have e : bytesV (wrs (es.take k) ++ (⟨ek, ec, et, er, em, ep⟩ : Ent).wr) = bytesV (wrs (es.take k)) ++ bytesV (⟨ek, ec, et, er, em, ep⟩ : Ent).wr := by simp [bytesV]
            rw [e]; exact hown7
          · rcases HE.out j hj with h | h
            · exact h
            · rw [h, hEE]; exact hB
          · exact Below.grown hb6' hg7 hs6 (fun q hq => (own6.lt q hq).1)
        case measure => simp [intOf]; omega
    · have hk' : k = N := by omega
      subst hk'
      have hge : ¬ (k : Int) < k := by omega
      go_wp2
      go_returns
      have := HN.out
      refine ⟨.inl ⟨ok_all (fun j hj => hok j (by omega)), _, rfl, ?_⟩, hbr⟩
      rw [List.take_of_length_le (by omega)] at hown
      rw [this]; exact hown
end Go.Proofs.YtkmmhdghkbleaaaDoor

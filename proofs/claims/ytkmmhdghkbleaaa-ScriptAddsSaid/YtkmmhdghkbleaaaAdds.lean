/-
  The walk of catchboltlaw19.ScriptAdds: it answers true at whatever bytes. No conditions.
-/
import Derived.Test.YtkmmhdghkbleaaaAddsF
import Derived.Test.YtkmmhdghkbleaaaReadsEnd
namespace Go.Proofs.Ytkmmhdghkbleaaa
open Go.ChangeShapes Go.WideShapes Go.ChangeAt Go.RowKit
set_option linter.unusedVariables false

theorem rdb_take {w : World} {A : Option Addr} {n m : Nat} {bs : List Int} (h : RdB w A n bs) (hm : m ≤ n) : RdB w A m (bs.take m) := by
  obtain ⟨hl, hw, b, off, hA, hc⟩ := h
  have hg : ∀ i, i < m → (bs.take m).getD i 0 = bs.getD i 0 := fun i hi => by
    rw [List.getD_eq_getElem?_getD, List.getD_eq_getElem?_getD, List.getElem?_take_of_lt hi]
  refine ⟨by rw [List.length_take]; omega, fun i => ?_, b, off, fun hn => hA (by omega), fun i hi => by rw [hg i hi]; exact hc i (by omega)⟩
  rcases Nat.lt_or_ge i m with hi | hi
  · rw [hg i hi]; exact hw i
  · rw [List.getD_eq_getElem?_getD, List.getElem?_eq_none (by rw [List.length_take]; omega)]; simp

theorem rdb_app_wf {a b : List Int} (ha : ∀ i, 0 ≤ a.getD i 0 ∧ a.getD i 0 ≤ 255) (hb : ∀ i, 0 ≤ b.getD i 0 ∧ b.getD i 0 ≤ 255) : ∀ i, 0 ≤ (a ++ b).getD i 0 ∧ (a ++ b).getD i 0 ≤ 255 := fun i => by
  rcases Nat.lt_or_ge i a.length with h | h
  · rw [getD_app_left _ _ _ h]; exact ha i
  · rw [getD_app_right _ _ _ h]; exact hb _

theorem ent_app_left (a b : List Ent) (i : Nat) (h : i < a.length) : (a ++ b).getD i Ent.none = a.getD i Ent.none := by
  rw [List.getD_eq_getElem?_getD, List.getD_eq_getElem?_getD, List.getElem?_append_left h]
theorem ent_app_right (a b : List Ent) (i : Nat) (h : a.length ≤ i) : (a ++ b).getD i Ent.none = b.getD (i - a.length) Ent.none := by
  rw [List.getD_eq_getElem?_getD, List.getD_eq_getElem?_getD, List.getElem?_append_right h]

set_option maxHeartbeats 1000000 in
theorem adds_end (A1 A2 : Option Addr) (n1 c1 n2 c2 : Nat) (w : World) (hm : ¬ (n1 ≤ 2000 ∧ n2 ≤ 2000)) :
    Calls Try.prog 4 #[.slice A1 n1 c1, .slice A2 n2 c2] w fun e w' => e = .returned (.bool true) ∧ Below w.heap.size w w' := by
  by_cases h1 : n1 ≤ 2000
  · have h1' : ¬ (2000 : Int) < n1 := by omega
    have h2' : (2000 : Int) < n2 := by omega
    clear hm h1
    go_enter Try.func4, Try.ntmps4
    go_wp2_with fail
    refine (alive_true _).mono ?_
    rintro e w1 ⟨rfl, hb1⟩
    go_wp2
    go_ret
    exact ⟨rfl, hb1⟩
  · have h1' : (2000 : Int) < n1 := by omega
    clear hm h1
    go_enter Try.func4, Try.ntmps4
    go_wp2_with fail
    refine (alive_true _).mono ?_
    rintro e w1 ⟨rfl, hb1⟩
    go_wp2
    go_ret
    exact ⟨rfl, hb1⟩

set_option maxRecDepth 100000 in
set_option maxHeartbeats 8000000 in
theorem adds_true (A1 A2 : Option Addr) (n1 c1 n2 c2 : Nat) (av bv : List Int) (w : World) (ha : RdB w A1 n1 av) (hb : RdB w A2 n2 bv) (hm1 : n1 ≤ 2000) (hm2 : n2 ≤ 2000) (hc1 : n1 ≤ c1) (hc2 : n2 ≤ c2) :
    Calls Try.prog 4 #[.slice A1 n1 c1, .slice A2 n2 c2] w fun e w' => e = .returned (.bool true) ∧ Below w.heap.size w w' := by
  have hm1' : ¬ (2000 : Int) < n1 := by omega
  have hm2' : ¬ (2000 : Int) < n2 := by omega
  obtain ⟨m, hm⟩ : ∃ m : Nat, n1 / 5 * 5 = m := ⟨_, rfl⟩
  have hmn : m ≤ n1 := by omega
  have hmc : m ≤ c1 := by omega
  have hm5 : m % 5 = 0 := by omega
  have hmi : (n1 : Int) / 5 * 5 = (m : Int) := by omega
  have ha := rdb_take ha hmn
  generalize av.take m = av at ha
  go_enter Try.func4, Try.ntmps4
  go_wp2_with fail
  refine (alive_true _).mono ?_
  rintro e w1 ⟨rfl, hb1⟩
  have ha1 := ha.below hb1
  have hbb1 := hb.below hb1
  go_wp2_with fail
  refine (parse_any A1 m c1 av w1 ha1 (by omega) hmc).mono ?_
  rintro e w2 ⟨⟨v2, rfl, hown2⟩, hb2⟩
  go_wp2_with fail
  refine (parse_any A2 n2 c2 bv w2 (hbb1.below hb2) (by omega) hc2).mono ?_
  rintro e w3 ⟨⟨v3, rfl, hown3⟩, hb3⟩
  have ha3 := (ha1.below hb2).below hb3
  have hbb3 := (hbb1.below hb2).below hb3
  have hE := own_empty w3 5 1
  have hbE : Below w3.heap.size w3 (w3.alloc (.cells #[] 5)) := (Below.refl _ _).alloc (Nat.le_refl _) (.cells #[] 5)
  go_wp2_with (first
    | (at_builtin; refine wpList_append_bytes rfl _ _ rfl rfl w3.heap.size _ 0 [] rfl hE A1 m c1 av rfl (ha3.below hbE) (by simp) (by omega) ?_; intro v4 w4 hown4 hg4
       have hb4 : Below w3.heap.size w3 w4 := Below.grown hbE hg4 (by simp) (fun k hk => by cases hk; exact Nat.le_refl _))
    | (at_builtin; refine wpList_append_bytes rfl _ _ rfl rfl w3.heap.size _ _ _ rfl hown4 A2 n2 c2 bv rfl (hbb3.below hb4) (by have := hb4.size; omega) (by omega) ?_; intro v5 w5 hown5 hg5))
  obtain ⟨A5, c5, rfl, hc5, r5⟩ := rdb_of_own (bs := av ++ bv) (n := m + n2) (by simpa [bytesV] using hown5) (rdb_app_wf ha.2.1 hb.2.1)
  have hs4 := hb4.size
  have hb5 : Below w3.heap.size w3 w5 := Below.grown hb4 hg5 hs4 (fun q hq => (hown4.lt q hq).1)
  refine (parse_any A5 (m + n2) c5 (av ++ bv) w5 r5 (by omega) hc5).mono ?_
  rintro e w6 ⟨⟨v6, rfl, hown6⟩, hb6⟩
  have hs1 := hb1.size
  have hs2 := hb2.size
  have hs3 := hb3.size
  have hs5 := hb5.size
  have hs6 := hb6.size
  have hB6 : Below w.heap.size w w6 := ((((hb1.trans (hb2.mono hs1)).trans (hb3.mono (by omega))).trans (hb5.mono (by omega))).trans (hb6.mono (by omega)))
  have hP := parsed_append av bv (by rw [ha.1]; exact hm5)
  have hx := parsed_length av
  have hy := parsed_length bv
  have hla := ha.1
  have hlb := hb.1
  obtain ⟨X2, k2, rfl, _, r2⟩ := rde_of_own hown2
  obtain ⟨X3, k3, rfl, _, r3⟩ := rde_of_own hown3
  obtain ⟨X6, k6, rfl, _, r6⟩ := rde_of_own hown6
  have r2' := ((r2.below hb3).below hb5).below hb6
  have r3' := (r3.below hb5).below hb6
  rw [hP] at r6
  simp only [hP, List.length_append]
  generalize parsed av = xs at *
  generalize parsed bv = ys at *
  obtain ⟨n, hn⟩ : ∃ n, xs.length = n := ⟨_, rfl⟩
  obtain ⟨k, hk⟩ : ∃ k, ys.length = k := ⟨_, rfl⟩
  have HX := Lib.hid hn
  have HY := Lib.hid hk
  have hn4 : n ≤ 400 := by omega
  have hk4 : k ≤ 401 := by omega
  simp only [hn, hk]
  clear hown2 hown3 hown4 hown5 hown6 r2 r3 hn hk hP hx hy hE
  go_wp2
  go_loopw [8] (fun i wr => ∃ j : Nat, j ≤ n + k ∧ i = .int .i64 j ∧ Below w6.heap.size w6 wr) (fun i _ => n + k - (intOf i).toNat)
  case atStart => exact ⟨0, by omega, rfl, Below.refl _ _⟩
  case round =>
    obtain ⟨j, hj, rfl, hbr⟩ := hrel
    by_cases hlt : j < n + k
    · have hlt' : (j : Int) < n + k := by omega
      have hj0 : (0 : Int) ≤ j := by omega
      obtain ⟨g6, hA6, hc6⟩ := r6.below hbr
      obtain ⟨rfl, hg6⟩ := hA6 (by rw [List.length_append, HX.out, HY.out]; omega)
      obtain ⟨p0, p1, p2, p3, p4, p5⟩ := hc6 j (by rw [List.length_append, HX.out, HY.out]; omega)
      by_cases hjn : j < n
      · have hjn' : decide ((j : Int) < n) = true := decide_eq_true (by omega)
        obtain ⟨g2, hA2, hc2⟩ := r2'.below hbr
        obtain ⟨rfl, hg2⟩ := hA2 (by rw [HX.out]; omega)
        obtain ⟨q0, q1, q2, q3, q4, q5⟩ := hc2 j (by rw [HX.out]; omega)
        rw [ent_app_left _ _ _ (by rw [HX.out]; exact hjn)] at p0 p1 p2 p3 p4 p5
        clear hc2 hc6 hA2 hA6
        generalize xs.getD j Ent.none = E at *
        obtain ⟨ek, ec, et, er, em, ep⟩ := E
        simp only at p0 p1 p2 p3 p4 p5 q0 q1 q2 q3 q4 q5
        rw [Nat.mul_comm 6 j] at p0 p1 p2 p3 p4 p5 q0 q1 q2 q3 q4 q5
        have hge : decide ((n : Int) ≤ j) = false := decide_eq_false (by omega)
        have hgn : decide (n ≤ j) = false := decide_eq_false (by omega)
        have hjn2 : decide (j < n) = true := decide_eq_true hjn
        go_wp2
        go_quiet (fail)
        go_wp2
        go_roundw
        case rel => exact ⟨j + 1, by omega, by go_num, by first | exact hbr | exact Below.drew hbr | (go_light; exact below_drewN hbr _)⟩
        case measure => simp [intOf]; omega
      · have hjn' : decide ((j : Int) < n) = false := decide_eq_false (by omega)
        obtain ⟨d, hd⟩ : ∃ d, j - n = d := ⟨_, rfl⟩
        have hdi : (j : Int) - n = d := by omega
        obtain ⟨g3, hA3, hc3⟩ := r3'.below hbr
        obtain ⟨rfl, hg3⟩ := hA3 (by rw [HY.out]; omega)
        obtain ⟨q0, q1, q2, q3, q4, q5⟩ := hc3 d (by rw [HY.out]; omega)
        rw [ent_app_right _ _ _ (by rw [HX.out]; omega), HX.out, hd] at p0 p1 p2 p3 p4 p5
        clear hc3 hc6 hA3 hA6
        generalize ys.getD d Ent.none = E at *
        obtain ⟨ek, ec, et, er, em, ep⟩ := E
        simp only at p0 p1 p2 p3 p4 p5 q0 q1 q2 q3 q4 q5
        rw [Nat.mul_comm 6 j] at p0 p1 p2 p3 p4 p5
        rw [Nat.mul_comm 6 d] at q0 q1 q2 q3 q4 q5
        have hge : decide ((n : Int) ≤ j) = true := decide_eq_true (by omega)
        have hgn : decide (n ≤ j) = true := decide_eq_true (by omega)
        have hjn2 : decide (j < n) = false := decide_eq_false hjn
        have hdk : (d : Int) < k := by omega
        have hd0 : (0 : Int) ≤ d := by omega
        go_wp2
        go_quiet (fail)
        go_wp2
        go_roundw
        case rel => exact ⟨j + 1, by omega, by go_num, by first | exact hbr | exact Below.drew hbr | (go_light; exact below_drewN hbr _)⟩
        case measure => simp [intOf]; omega
    · have hk' : j = n + k := by omega
      subst hk'
      have hge : ¬ ((n + k : Nat) : Int) < n + k := by omega
      go_wp2
      go_ret
      exact ⟨rfl, hB6.trans (hbr.mono (by omega))⟩
end Go.Proofs.Ytkmmhdghkbleaaa

/-
  script.read: the entry of five bytes, as the plain function rdF has it. No conditions but that they are bytes.
-/
import Derived.Test.YtkmmhdghkbleaaaDoorEntW
import Derived.Laws.BitsAllLaws
import Derived.Laws.BitsLemmas
namespace Go.Proofs.YtkmmhdghkbleaaaDoor
open Go.ChangeShapes Go.WideShapes Go.ChangeAt Go.RowKit
set_option linter.unusedVariables false

theorem belowK {W w' : World} (hb : Below W.heap.size W w') {K : Nat} (hK : W.heap.size = K) : (∀ b o, b < K → w'.cell? ⟨b, o, none⟩ = W.cell? ⟨b, o, none⟩) ∧ (∀ b o, b < K → w'.frozen? ⟨b, o, none⟩ = W.frozen? ⟨b, o, none⟩) ∧ K ≤ w'.heap.size := by
  subst hK
  exact ⟨fun b o h => hb.cell (p := ⟨b, o, none⟩) h, fun b o h => hb.frozen (p := ⟨b, o, none⟩) h, hb.size⟩

theorem lt_of_cell {w : World} {b o : Nat} {v : Value} (h : w.cell? ⟨b, o, none⟩ = some v) : b < w.heap.size := by
  rcases Nat.lt_or_ge b w.heap.size with h' | h'
  · exact h'
  · simp [World.cell?, Array.getElem?_eq_none h'] at h

theorem belowK' {K : Nat} {W w' : World} (hb : Below K W w') (hK : W.heap.size = K) : (∀ b o, b < K → w'.cell? ⟨b, o, none⟩ = W.cell? ⟨b, o, none⟩) ∧ (∀ b o, b < K → w'.frozen? ⟨b, o, none⟩ = W.frozen? ⟨b, o, none⟩) ∧ K ≤ w'.heap.size :=
  ⟨fun b o h => hb.cell (p := ⟨b, o, none⟩) h, fun b o h => hb.frozen (p := ⟨b, o, none⟩) h, by rw [← hK]; exact hb.size⟩

theorem below_drewN {B : Nat} {a w : World} (h : Below B a w) (n : Nat) : Below B a (w.drewN n) := ⟨h.os, h.tape, h.output, h.size, h.block⟩

theorem below12 {K : Nat} {W w1 w2 : World} (hb1 : Below W.heap.size W w1) (hb2 : Below w1.heap.size w1 w2) (hK : W.heap.size = K) : Below K W w2 := by
  subst hK; exact hb1.trans (hb2.mono hb1.size)

theorem equal5 (g b off : Nat) (x0 x1 x2 x3 x4 y0 y1 y2 y3 y4 : Int) (w : World)
    (d0 : w.cell? ⟨g, 0, none⟩ = some (.int .u8 x0)) (d1 : w.cell? ⟨g, 1, none⟩ = some (.int .u8 x1)) (d2 : w.cell? ⟨g, 2, none⟩ = some (.int .u8 x2)) (d3 : w.cell? ⟨g, 3, none⟩ = some (.int .u8 x3)) (d4 : w.cell? ⟨g, 4, none⟩ = some (.int .u8 x4))
    (m0 : w.cell? ⟨b, off, none⟩ = some (.int .u8 y0)) (m1 : w.cell? ⟨b, off + 1, none⟩ = some (.int .u8 y1)) (m2 : w.cell? ⟨b, off + 2, none⟩ = some (.int .u8 y2)) (m3 : w.cell? ⟨b, off + 3, none⟩ = some (.int .u8 y3)) (m4 : w.cell? ⟨b, off + 4, none⟩ = some (.int .u8 y4)) :
    Calls Tryd.prog 28 #[.slice (some ⟨g, 0, none⟩) 5 5, .slice (some ⟨b, off, none⟩) 5 5] w fun e w' => e = .returned (.bool (x0 == y0 && x1 == y1 && x2 == y2 && x3 == y3 && x4 == y4)) ∧ ∃ q, w' = w.drewN q := by
  refine (equal_any g 0 b off 5 5 5 (fun i => [x0, x1, x2, x3, x4].getD i 0) (fun i => [y0, y1, y2, y3, y4].getD i 0) w (by omega) ?_ ?_).mono fun e w' ⟨he, hw⟩ => ⟨?_, hw⟩
  · intro i hi
    obtain rfl | rfl | rfl | rfl | rfl : i = 0 ∨ i = 1 ∨ i = 2 ∨ i = 3 ∨ i = 4 := by omega
    all_goals (first | simpa using d0 | simpa using d1 | simpa using d2 | simpa using d3 | simpa using d4)
  · intro i hi
    obtain rfl | rfl | rfl | rfl | rfl : i = 0 ∨ i = 1 ∨ i = 2 ∨ i = 3 ∨ i = 4 := by omega
    all_goals (first | simpa using m0 | simpa using m1 | simpa using m2 | simpa using m3 | simpa using m4)
  · rw [he]; simp [eqUp]

theorem ofInt_i64 (a : Nat) (ha : a < 9223372036854775808) : (BitVec.ofInt 64 (a : Int)).toNat = a := by
  rw [BitVec.ofInt_natCast, BitVec.toNat_ofNat]; exact Nat.mod_eq_of_lt (by omega)
theorem i64_or_nat (a b : Nat) (ha : a < 9223372036854775808) (hb : b < 9223372036854775808) : bits .or .i64 (a : Int) (b : Int) = ((a ||| b : Nat) : Int) := by
  have hx : a ||| b < 2 ^ 63 := Nat.or_lt_two_pow (by omega) (by omega)
  show IntKind.i64.wrap ((BitVec.ofInt 64 (a : Int) ||| BitVec.ofInt 64 (b : Int)).toNat : Int) = _
  rw [BitVec.toNat_or, ofInt_i64 a ha, ofInt_i64 b hb, IntKind.wrap_i64]
  omega

theorem pick_or (a1 a2 a3 : Int) (h1 : 0 ≤ a1) (h1' : a1 ≤ 255) (h2 : 0 ≤ a2) (h2' : a2 ≤ 255) (h3 : 0 ≤ a3) (h3' : a3 ≤ 255) :
    bits .or .i64 (bits .or .i64 (a1 * 65536) (a2 * 256)) a3 = 65536 * a1 + 256 * a2 + a3 := by
  obtain ⟨n1, rfl⟩ := Int.eq_ofNat_of_zero_le h1
  obtain ⟨n2, rfl⟩ := Int.eq_ofNat_of_zero_le h2
  obtain ⟨n3, rfl⟩ := Int.eq_ofNat_of_zero_le h3
  have e1 : ((n1 : Int) * 65536) = ((n1 * 65536 : Nat) : Int) := by omega
  have e2 : ((n2 : Int) * 256) = ((n2 * 256 : Nat) : Int) := by omega
  rw [e1, e2, i64_or_nat _ _ (by omega) (by omega)]
  have s1 : n1 * 65536 ||| n2 * 256 = n1 * 65536 + n2 * 256 := by
    have := Nat.shiftLeft_add_eq_or_of_lt (i := 16) (b := n2 * 256) (by omega) n1
    rw [Nat.shiftLeft_eq] at this; simpa using this.symm
  rw [s1, i64_or_nat _ _ (by omega) (by omega)]
  have s2 : (n1 * 65536 + n2 * 256) ||| n3 = n1 * 65536 + n2 * 256 + n3 := by
    have := Nat.shiftLeft_add_eq_or_of_lt (i := 8) (b := n3) (by omega) (n1 * 256 + n2)
    rw [Nat.shiftLeft_eq] at this
    have e : (n1 * 256 + n2) * 2 ^ 8 = n1 * 65536 + n2 * 256 := by
      rw [show (2 : Nat) ^ 8 = 256 from rfl, Nat.add_mul, Nat.mul_assoc]
    rw [e] at this; exact this.symm
  rw [s2]; omega

theorem write_pk (k p a1 a2 a3 : Int) (w : World) (hk : k = 7 ∨ k = 8 ∨ k = 9) (hp : 0 ≤ p ∧ p < 16777216) (e1 : p / 65536 = a1) (e2 : p / 256 % 256 = a2) (e3 : p % 256 = a3) :
    Calls Tryd.prog 15 #[.agg #[.int .i64 k, .int .i64 0, .int .i64 0, .int .i64 0, .int .i64 0, .int .i64 p]] w fun e w' => (∃ v, e = .returned v ∧ Five w w' v k a1 a2 a3 0) ∧ Below w.heap.size w w' := by
  subst e1 e2 e3
  exact write_p k p w hk hp

set_option maxHeartbeats 4000000 in
theorem read_3t (b off : Nat) (a1 a2 a3 a4 : Int) (w : World) (hc0 : w.cell? ⟨b, off, none⟩ = some (.int .u8 3)) (hc1 : w.cell? ⟨b, off + 1, none⟩ = some (.int .u8 a1)) (hc2 : w.cell? ⟨b, off + 2, none⟩ = some (.int .u8 a2))
    (hc3 : w.cell? ⟨b, off + 3, none⟩ = some (.int .u8 a3)) (hc4 : w.cell? ⟨b, off + 4, none⟩ = some (.int .u8 a4)) (h1 : 0 ≤ a1) (h1' : a1 ≤ 255) (h2 : 0 ≤ a2) (h2' : a2 ≤ 255) (h3 : 0 ≤ a3) (h3' : a3 ≤ 255) (h4 : 0 ≤ a4) (h4' : a4 ≤ 255)
    (hf : entB 3 a1 a2 a3 a4 0 = true) :
    Calls Tryd.prog 19 #[.slice (some ⟨b, off, none⟩) 5 5] w fun e w' => e = .returned (⟨3, a1, a2, a3, a4, 0⟩ : Ent).val ∧ Below w.heap.size w w' := by
  have hbl := lt_of_cell hc0
  have hne : b ≠ w.heap.size := by omega
  have hne1 : b ≠ w.heap.size + 1 := by omega
  go_enter Tryd.func19, Tryd.ntmps19
  go_wp2_with fail
  go_quiet (fail)
  go_wp2_with fail
  go_region
  all_goals (go_wp2_with fail)
  refine (entok_any _ _ _ _ _ _ _).mono ?_
  rintro e w1 ⟨rfl, hb1⟩
  have hA1 : Below w.heap.size w w1 := by
    refine Below.trans ?_ (hb1.mono ?_)
    · go_grown <;> (refine below_drewN ?_ _; go_grown)
    · simp; omega
  obtain ⟨kc, kf, kz⟩ := belowK hb1 (K := w.heap.size + 2) (by simp)
  go_wp2_with fail
  refine (write_3 _ _ _ _ _ ⟨h1, h1'⟩ ⟨h2, h2'⟩ ⟨h3, h3'⟩ ⟨h4, h4'⟩).mono ?_
  rintro e w2 ⟨⟨v, rfl, g, rfl, hg, hg2, d0, d1, d2, d3, d4⟩, hb2⟩
  clear kc kf
  have hA := hA1.trans (hb2.mono (by omega))
  have hb12 := below12 hb1 hb2 (K := w.heap.size + 2) (by simp)
  obtain ⟨kc, kf, kz2⟩ := belowK' hb12 (by simp)
  have m0 := (hA.cell (p := ⟨b, off, none⟩) hbl).trans hc0
  have m1 := (hA.cell (p := ⟨b, off + 1, none⟩) hbl).trans hc1
  have m2 := (hA.cell (p := ⟨b, off + 2, none⟩) hbl).trans hc2
  have m3 := (hA.cell (p := ⟨b, off + 3, none⟩) hbl).trans hc3
  have m4 := (hA.cell (p := ⟨b, off + 4, none⟩) hbl).trans hc4
  go_wp2_with fail
  refine (equal5 g b off 3 a1 a2 a3 a4 3 a1 a2 a3 a4 _ d0 d1 d2 d3 d4 m0 m1 m2 m3 m4).mono ?_
  rintro e w3 ⟨rfl, q, rfl⟩
  clear d0 d1 d2 d3 d4 m0 m1 m2 m3 m4
  have hs := hA.size
  have r0 : w2.cell? ⟨w.heap.size, 0, none⟩ = some (.int .i64 0) := by go_simp
  have r1 : w2.cell? ⟨w.heap.size, 1, none⟩ = some (.int .i64 0) := by go_simp
  have r2 : w2.cell? ⟨w.heap.size, 2, none⟩ = some (.int .i64 0) := by go_simp
  have r3 : w2.cell? ⟨w.heap.size, 3, none⟩ = some (.int .i64 0) := by go_simp
  have r4 : w2.cell? ⟨w.heap.size, 4, none⟩ = some (.int .i64 0) := by go_simp
  have r5 : w2.cell? ⟨w.heap.size, 5, none⟩ = some (.int .i64 0) := by go_simp
  go_wp2
  refine bodyPost_ret (by simp [results, Tryd.results19, go_sem, r0, r1, r2, r3, r4, r5]; rfl) rfl ⟨rfl, ?_⟩
  go_light
  repeat' (first | (with_reducible exact hA) | (with_reducible exact below_drewN hA _) | (with_reducible refine Below.setCell ?_ ?_ _) | exact Nat.le_refl _)

set_option maxHeartbeats 4000000 in
theorem read_3f (b off : Nat) (a1 a2 a3 a4 : Int) (w : World) (hc0 : w.cell? ⟨b, off, none⟩ = some (.int .u8 3)) (hc1 : w.cell? ⟨b, off + 1, none⟩ = some (.int .u8 a1)) (hc2 : w.cell? ⟨b, off + 2, none⟩ = some (.int .u8 a2))
    (hc3 : w.cell? ⟨b, off + 3, none⟩ = some (.int .u8 a3)) (hc4 : w.cell? ⟨b, off + 4, none⟩ = some (.int .u8 a4)) (h1 : 0 ≤ a1) (h1' : a1 ≤ 255) (h2 : 0 ≤ a2) (h2' : a2 ≤ 255) (h3 : 0 ≤ a3) (h3' : a3 ≤ 255) (h4 : 0 ≤ a4) (h4' : a4 ≤ 255)
    (hf : entB 3 a1 a2 a3 a4 0 = false) :
    Calls Tryd.prog 19 #[.slice (some ⟨b, off, none⟩) 5 5] w fun e w' => e = .returned (Ent.none).val ∧ Below w.heap.size w w' := by
  have hbl := lt_of_cell hc0
  have hne : b ≠ w.heap.size := by omega
  have hne1 : b ≠ w.heap.size + 1 := by omega
  go_enter Tryd.func19, Tryd.ntmps19
  go_wp2_with fail
  go_quiet (fail)
  go_wp2_with fail
  go_region
  all_goals (go_wp2_with fail)
  refine (entok_any _ _ _ _ _ _ _).mono ?_
  rintro e w1 ⟨rfl, hb1⟩
  have hA1 : Below w.heap.size w w1 := by
    refine Below.trans ?_ (hb1.mono ?_)
    · go_grown <;> (refine below_drewN ?_ _; go_grown)
    · simp; omega
  obtain ⟨kc, kf, kz⟩ := belowK hb1 (K := w.heap.size + 2) (by simp)
  have hA := hA1
  have hs := hA.size
  have r0 : w1.cell? ⟨w.heap.size, 0, none⟩ = some (.int .i64 0) := by go_simp
  have r1 : w1.cell? ⟨w.heap.size, 1, none⟩ = some (.int .i64 0) := by go_simp
  have r2 : w1.cell? ⟨w.heap.size, 2, none⟩ = some (.int .i64 0) := by go_simp
  have r3 : w1.cell? ⟨w.heap.size, 3, none⟩ = some (.int .i64 0) := by go_simp
  have r4 : w1.cell? ⟨w.heap.size, 4, none⟩ = some (.int .i64 0) := by go_simp
  have r5 : w1.cell? ⟨w.heap.size, 5, none⟩ = some (.int .i64 0) := by go_simp
  go_wp2
  refine bodyPost_ret (by simp [results, Tryd.results19, go_sem, r0, r1, r2, r3, r4, r5]; rfl) rfl ⟨rfl, ?_⟩
  go_light
  repeat' (first | (with_reducible exact hA) | (with_reducible exact below_drewN hA _) | (with_reducible refine Below.setCell ?_ ?_ _) | exact Nat.le_refl _)

set_option maxHeartbeats 4000000 in
theorem read_ct (b off : Nat) (k a1 a2 a3 a4 : Int) (w : World) (hc0 : w.cell? ⟨b, off, none⟩ = some (.int .u8 k)) (hc1 : w.cell? ⟨b, off + 1, none⟩ = some (.int .u8 a1)) (hc2 : w.cell? ⟨b, off + 2, none⟩ = some (.int .u8 a2))
    (hc3 : w.cell? ⟨b, off + 3, none⟩ = some (.int .u8 a3)) (hc4 : w.cell? ⟨b, off + 4, none⟩ = some (.int .u8 a4)) (h1 : 0 ≤ a1) (h1' : a1 ≤ 255) (h2 : 0 ≤ a2) (h2' : a2 ≤ 255) (h3 : 0 ≤ a3) (h3' : a3 ≤ 255) (h4 : 0 ≤ a4) (h4' : a4 ≤ 255)
    (hk : k = 2 ∨ k = 4 ∨ k = 5 ∨ k = 6) (hf : entB k a1 0 0 0 0 = true) (hz : a2 = 0 ∧ a3 = 0 ∧ a4 = 0) :
    Calls Tryd.prog 19 #[.slice (some ⟨b, off, none⟩) 5 5] w fun e w' => e = .returned (⟨k, a1, 0, 0, 0, 0⟩ : Ent).val ∧ Below w.heap.size w w' := by
  have hbl := lt_of_cell hc0
  have hne : b ≠ w.heap.size := by omega
  have hne1 : b ≠ w.heap.size + 1 := by omega
  obtain ⟨rfl, rfl, rfl⟩ := hz
  rcases hk with rfl | rfl | rfl | rfl
  all_goals
    go_enter Tryd.func19, Tryd.ntmps19
    go_wp2_with fail
    go_quiet (fail)
    go_wp2_with fail
    refine (entok_any _ _ _ _ _ _ _).mono ?_
    rintro e w1 ⟨rfl, hb1⟩
    have hA1 : Below w.heap.size w w1 := by
      refine Below.trans ?_ (hb1.mono ?_)
      · go_grown <;> (refine below_drewN ?_ _; go_grown)
      · simp; omega
    obtain ⟨kc, kf, kz⟩ := belowK hb1 (K := w.heap.size + 2) (by simp)
    go_wp2_with fail
    refine (write_c _ _ _ (by decide) ⟨h1, h1'⟩).mono ?_
    rintro e w2 ⟨⟨v, rfl, g, rfl, hg, hg2, d0, d1, d2, d3, d4⟩, hb2⟩
    clear kc kf
    have hA := hA1.trans (hb2.mono (by omega))
    have hb12 := below12 hb1 hb2 (K := w.heap.size + 2) (by simp)
    obtain ⟨kc, kf, kz2⟩ := belowK' hb12 (by simp)
    have m0 := (hA.cell (p := ⟨b, off, none⟩) hbl).trans hc0
    have m1 := (hA.cell (p := ⟨b, off + 1, none⟩) hbl).trans hc1
    have m2 := (hA.cell (p := ⟨b, off + 2, none⟩) hbl).trans hc2
    have m3 := (hA.cell (p := ⟨b, off + 3, none⟩) hbl).trans hc3
    have m4 := (hA.cell (p := ⟨b, off + 4, none⟩) hbl).trans hc4
    go_wp2_with fail
    refine (equal5 g b off _ a1 0 0 0 _ a1 0 0 0 _ d0 d1 d2 d3 d4 m0 m1 m2 m3 m4).mono ?_
    rintro e w3 ⟨rfl, q, rfl⟩
    clear d0 d1 d2 d3 d4 m0 m1 m2 m3 m4
    have hs := hA.size
    have r0 : w2.cell? ⟨w.heap.size, 0, none⟩ = some (.int .i64 0) := by go_simp
    have r1 : w2.cell? ⟨w.heap.size, 1, none⟩ = some (.int .i64 0) := by go_simp
    have r2 : w2.cell? ⟨w.heap.size, 2, none⟩ = some (.int .i64 0) := by go_simp
    have r3 : w2.cell? ⟨w.heap.size, 3, none⟩ = some (.int .i64 0) := by go_simp
    have r4 : w2.cell? ⟨w.heap.size, 4, none⟩ = some (.int .i64 0) := by go_simp
    have r5 : w2.cell? ⟨w.heap.size, 5, none⟩ = some (.int .i64 0) := by go_simp
    go_wp2
    refine bodyPost_ret (by simp [results, Tryd.results19, go_sem, r0, r1, r2, r3, r4, r5]; rfl) rfl ⟨rfl, ?_⟩
    go_light
    repeat' (first | (with_reducible exact hA) | (with_reducible exact below_drewN hA _) | (with_reducible refine Below.setCell ?_ ?_ _) | exact Nat.le_refl _)

set_option maxHeartbeats 4000000 in
theorem read_cz (b off : Nat) (k a1 a2 a3 a4 : Int) (w : World) (hc0 : w.cell? ⟨b, off, none⟩ = some (.int .u8 k)) (hc1 : w.cell? ⟨b, off + 1, none⟩ = some (.int .u8 a1)) (hc2 : w.cell? ⟨b, off + 2, none⟩ = some (.int .u8 a2))
    (hc3 : w.cell? ⟨b, off + 3, none⟩ = some (.int .u8 a3)) (hc4 : w.cell? ⟨b, off + 4, none⟩ = some (.int .u8 a4)) (h1 : 0 ≤ a1) (h1' : a1 ≤ 255) (h2 : 0 ≤ a2) (h2' : a2 ≤ 255) (h3 : 0 ≤ a3) (h3' : a3 ≤ 255) (h4 : 0 ≤ a4) (h4' : a4 ≤ 255)
    (hk : k = 2 ∨ k = 4 ∨ k = 5 ∨ k = 6) (hf : entB k a1 0 0 0 0 = true) (hz : (0 == a2 && 0 == a3 && 0 == a4) = false) :
    Calls Tryd.prog 19 #[.slice (some ⟨b, off, none⟩) 5 5] w fun e w' => e = .returned (Ent.none).val ∧ Below w.heap.size w w' := by
  have hbl := lt_of_cell hc0
  have hne : b ≠ w.heap.size := by omega
  have hne1 : b ≠ w.heap.size + 1 := by omega
  rcases hk with rfl | rfl | rfl | rfl
  all_goals
    go_enter Tryd.func19, Tryd.ntmps19
    go_wp2_with fail
    go_quiet (fail)
    go_wp2_with fail
    refine (entok_any _ _ _ _ _ _ _).mono ?_
    rintro e w1 ⟨rfl, hb1⟩
    have hA1 : Below w.heap.size w w1 := by
      refine Below.trans ?_ (hb1.mono ?_)
      · go_grown <;> (refine below_drewN ?_ _; go_grown)
      · simp; omega
    obtain ⟨kc, kf, kz⟩ := belowK hb1 (K := w.heap.size + 2) (by simp)
    go_wp2_with fail
    refine (write_c _ _ _ (by decide) ⟨h1, h1'⟩).mono ?_
    rintro e w2 ⟨⟨v, rfl, g, rfl, hg, hg2, d0, d1, d2, d3, d4⟩, hb2⟩
    clear kc kf
    have hA := hA1.trans (hb2.mono (by omega))
    have hb12 := below12 hb1 hb2 (K := w.heap.size + 2) (by simp)
    obtain ⟨kc, kf, kz2⟩ := belowK' hb12 (by simp)
    have m0 := (hA.cell (p := ⟨b, off, none⟩) hbl).trans hc0
    have m1 := (hA.cell (p := ⟨b, off + 1, none⟩) hbl).trans hc1
    have m2 := (hA.cell (p := ⟨b, off + 2, none⟩) hbl).trans hc2
    have m3 := (hA.cell (p := ⟨b, off + 3, none⟩) hbl).trans hc3
    have m4 := (hA.cell (p := ⟨b, off + 4, none⟩) hbl).trans hc4
    go_wp2_with fail
    refine (equal5 g b off _ a1 0 0 0 _ a1 a2 a3 a4 _ d0 d1 d2 d3 d4 m0 m1 m2 m3 m4).mono ?_
    rintro e w3 ⟨rfl, q, rfl⟩
    clear d0 d1 d2 d3 d4 m0 m1 m2 m3 m4
    have hs := hA.size
    have r0 : w2.cell? ⟨w.heap.size, 0, none⟩ = some (.int .i64 0) := by go_simp
    have r1 : w2.cell? ⟨w.heap.size, 1, none⟩ = some (.int .i64 0) := by go_simp
    have r2 : w2.cell? ⟨w.heap.size, 2, none⟩ = some (.int .i64 0) := by go_simp
    have r3 : w2.cell? ⟨w.heap.size, 3, none⟩ = some (.int .i64 0) := by go_simp
    have r4 : w2.cell? ⟨w.heap.size, 4, none⟩ = some (.int .i64 0) := by go_simp
    have r5 : w2.cell? ⟨w.heap.size, 5, none⟩ = some (.int .i64 0) := by go_simp
    go_wp2
    refine bodyPost_ret (by simp [results, Tryd.results19, go_sem, r0, r1, r2, r3, r4, r5]; rfl) rfl ⟨rfl, ?_⟩
    go_light
    repeat' (first | (with_reducible exact hA) | (with_reducible exact below_drewN hA _) | (with_reducible refine Below.setCell ?_ ?_ _) | exact Nat.le_refl _)

set_option maxHeartbeats 4000000 in
theorem read_cf (b off : Nat) (k a1 a2 a3 a4 : Int) (w : World) (hc0 : w.cell? ⟨b, off, none⟩ = some (.int .u8 k)) (hc1 : w.cell? ⟨b, off + 1, none⟩ = some (.int .u8 a1)) (hc2 : w.cell? ⟨b, off + 2, none⟩ = some (.int .u8 a2))
    (hc3 : w.cell? ⟨b, off + 3, none⟩ = some (.int .u8 a3)) (hc4 : w.cell? ⟨b, off + 4, none⟩ = some (.int .u8 a4)) (h1 : 0 ≤ a1) (h1' : a1 ≤ 255) (h2 : 0 ≤ a2) (h2' : a2 ≤ 255) (h3 : 0 ≤ a3) (h3' : a3 ≤ 255) (h4 : 0 ≤ a4) (h4' : a4 ≤ 255)
    (hk : k = 2 ∨ k = 4 ∨ k = 5 ∨ k = 6) (hf : entB k a1 0 0 0 0 = false) :
    Calls Tryd.prog 19 #[.slice (some ⟨b, off, none⟩) 5 5] w fun e w' => e = .returned (Ent.none).val ∧ Below w.heap.size w w' := by
  have hbl := lt_of_cell hc0
  have hne : b ≠ w.heap.size := by omega
  have hne1 : b ≠ w.heap.size + 1 := by omega
  rcases hk with rfl | rfl | rfl | rfl
  all_goals
    go_enter Tryd.func19, Tryd.ntmps19
    go_wp2_with fail
    go_quiet (fail)
    go_wp2_with fail
    refine (entok_any _ _ _ _ _ _ _).mono ?_
    rintro e w1 ⟨rfl, hb1⟩
    have hA1 : Below w.heap.size w w1 := by
      refine Below.trans ?_ (hb1.mono ?_)
      · go_grown <;> (refine below_drewN ?_ _; go_grown)
      · simp; omega
    obtain ⟨kc, kf, kz⟩ := belowK hb1 (K := w.heap.size + 2) (by simp)
    have hA := hA1
    have hs := hA.size
    have r0 : w1.cell? ⟨w.heap.size, 0, none⟩ = some (.int .i64 0) := by go_simp
    have r1 : w1.cell? ⟨w.heap.size, 1, none⟩ = some (.int .i64 0) := by go_simp
    have r2 : w1.cell? ⟨w.heap.size, 2, none⟩ = some (.int .i64 0) := by go_simp
    have r3 : w1.cell? ⟨w.heap.size, 3, none⟩ = some (.int .i64 0) := by go_simp
    have r4 : w1.cell? ⟨w.heap.size, 4, none⟩ = some (.int .i64 0) := by go_simp
    have r5 : w1.cell? ⟨w.heap.size, 5, none⟩ = some (.int .i64 0) := by go_simp
    go_wp2
    refine bodyPost_ret (by simp [results, Tryd.results19, go_sem, r0, r1, r2, r3, r4, r5]; rfl) rfl ⟨rfl, ?_⟩
    go_light
    repeat' (first | (with_reducible exact hA) | (with_reducible exact below_drewN hA _) | (with_reducible refine Below.setCell ?_ ?_ _) | exact Nat.le_refl _)

set_option maxHeartbeats 4000000 in
theorem read_0t (b off : Nat) (k a1 a2 a3 a4 : Int) (w : World) (hc0 : w.cell? ⟨b, off, none⟩ = some (.int .u8 k)) (hc1 : w.cell? ⟨b, off + 1, none⟩ = some (.int .u8 a1)) (hc2 : w.cell? ⟨b, off + 2, none⟩ = some (.int .u8 a2))
    (hc3 : w.cell? ⟨b, off + 3, none⟩ = some (.int .u8 a3)) (hc4 : w.cell? ⟨b, off + 4, none⟩ = some (.int .u8 a4)) (h1 : 0 ≤ a1) (h1' : a1 ≤ 255) (h2 : 0 ≤ a2) (h2' : a2 ≤ 255) (h3 : 0 ≤ a3) (h3' : a3 ≤ 255) (h4 : 0 ≤ a4) (h4' : a4 ≤ 255)
    (hk : k = 0 ∨ k = 1) (hz : a1 = 0 ∧ a2 = 0 ∧ a3 = 0 ∧ a4 = 0) :
    Calls Tryd.prog 19 #[.slice (some ⟨b, off, none⟩) 5 5] w fun e w' => e = .returned (⟨k, 0, 0, 0, 0, 0⟩ : Ent).val ∧ Below w.heap.size w w' := by
  have hbl := lt_of_cell hc0
  have hne : b ≠ w.heap.size := by omega
  have hne1 : b ≠ w.heap.size + 1 := by omega
  obtain ⟨rfl, rfl, rfl, rfl⟩ := hz
  have hf : entB k 0 0 0 0 0 = true := by rcases hk with rfl | rfl <;> decide
  rcases hk with rfl | rfl
  all_goals
    go_enter Tryd.func19, Tryd.ntmps19
    go_wp2_with fail
    go_quiet (fail)
    go_wp2_with fail
    refine (entok_any _ _ _ _ _ _ _).mono ?_
    rintro e w1 ⟨rfl, hb1⟩
    have hA1 : Below w.heap.size w w1 := by
      refine Below.trans ?_ (hb1.mono ?_)
      · go_grown <;> (refine below_drewN ?_ _; go_grown)
      · simp; omega
    obtain ⟨kc, kf, kz⟩ := belowK hb1 (K := w.heap.size + 2) (by simp)
    go_wp2_with fail
    refine (write_0 _ _ (by decide)).mono ?_
    rintro e w2 ⟨⟨v, rfl, g, rfl, hg, hg2, d0, d1, d2, d3, d4⟩, hb2⟩
    clear kc kf
    have hA := hA1.trans (hb2.mono (by omega))
    have hb12 := below12 hb1 hb2 (K := w.heap.size + 2) (by simp)
    obtain ⟨kc, kf, kz2⟩ := belowK' hb12 (by simp)
    have m0 := (hA.cell (p := ⟨b, off, none⟩) hbl).trans hc0
    have m1 := (hA.cell (p := ⟨b, off + 1, none⟩) hbl).trans hc1
    have m2 := (hA.cell (p := ⟨b, off + 2, none⟩) hbl).trans hc2
    have m3 := (hA.cell (p := ⟨b, off + 3, none⟩) hbl).trans hc3
    have m4 := (hA.cell (p := ⟨b, off + 4, none⟩) hbl).trans hc4
    go_wp2_with fail
    refine (equal5 g b off _ 0 0 0 0 _ 0 0 0 0 _ d0 d1 d2 d3 d4 m0 m1 m2 m3 m4).mono ?_
    rintro e w3 ⟨rfl, q, rfl⟩
    clear d0 d1 d2 d3 d4 m0 m1 m2 m3 m4
    have hs := hA.size
    have r0 : w2.cell? ⟨w.heap.size, 0, none⟩ = some (.int .i64 0) := by go_simp
    have r1 : w2.cell? ⟨w.heap.size, 1, none⟩ = some (.int .i64 0) := by go_simp
    have r2 : w2.cell? ⟨w.heap.size, 2, none⟩ = some (.int .i64 0) := by go_simp
    have r3 : w2.cell? ⟨w.heap.size, 3, none⟩ = some (.int .i64 0) := by go_simp
    have r4 : w2.cell? ⟨w.heap.size, 4, none⟩ = some (.int .i64 0) := by go_simp
    have r5 : w2.cell? ⟨w.heap.size, 5, none⟩ = some (.int .i64 0) := by go_simp
    go_wp2
    refine bodyPost_ret (by simp [results, Tryd.results19, go_sem, r0, r1, r2, r3, r4, r5]; rfl) rfl ⟨rfl, ?_⟩
    go_light
    repeat' (first | (with_reducible exact hA) | (with_reducible exact below_drewN hA _) | (with_reducible refine Below.setCell ?_ ?_ _) | exact Nat.le_refl _)

set_option maxHeartbeats 4000000 in
theorem read_0z (b off : Nat) (k a1 a2 a3 a4 : Int) (w : World) (hc0 : w.cell? ⟨b, off, none⟩ = some (.int .u8 k)) (hc1 : w.cell? ⟨b, off + 1, none⟩ = some (.int .u8 a1)) (hc2 : w.cell? ⟨b, off + 2, none⟩ = some (.int .u8 a2))
    (hc3 : w.cell? ⟨b, off + 3, none⟩ = some (.int .u8 a3)) (hc4 : w.cell? ⟨b, off + 4, none⟩ = some (.int .u8 a4)) (h1 : 0 ≤ a1) (h1' : a1 ≤ 255) (h2 : 0 ≤ a2) (h2' : a2 ≤ 255) (h3 : 0 ≤ a3) (h3' : a3 ≤ 255) (h4 : 0 ≤ a4) (h4' : a4 ≤ 255)
    (hk : k = 0 ∨ k = 1) (hz : (0 == a1 && 0 == a2 && 0 == a3 && 0 == a4) = false) :
    Calls Tryd.prog 19 #[.slice (some ⟨b, off, none⟩) 5 5] w fun e w' => e = .returned (Ent.none).val ∧ Below w.heap.size w w' := by
  have hbl := lt_of_cell hc0
  have hne : b ≠ w.heap.size := by omega
  have hne1 : b ≠ w.heap.size + 1 := by omega
  have hf : entB k 0 0 0 0 0 = true := by rcases hk with rfl | rfl <;> decide
  rcases hk with rfl | rfl
  all_goals
    go_enter Tryd.func19, Tryd.ntmps19
    go_wp2_with fail
    go_quiet (fail)
    go_wp2_with fail
    refine (entok_any _ _ _ _ _ _ _).mono ?_
    rintro e w1 ⟨rfl, hb1⟩
    have hA1 : Below w.heap.size w w1 := by
      refine Below.trans ?_ (hb1.mono ?_)
      · go_grown <;> (refine below_drewN ?_ _; go_grown)
      · simp; omega
    obtain ⟨kc, kf, kz⟩ := belowK hb1 (K := w.heap.size + 2) (by simp)
    go_wp2_with fail
    refine (write_0 _ _ (by decide)).mono ?_
    rintro e w2 ⟨⟨v, rfl, g, rfl, hg, hg2, d0, d1, d2, d3, d4⟩, hb2⟩
    clear kc kf
    have hA := hA1.trans (hb2.mono (by omega))
    have hb12 := below12 hb1 hb2 (K := w.heap.size + 2) (by simp)
    obtain ⟨kc, kf, kz2⟩ := belowK' hb12 (by simp)
    have m0 := (hA.cell (p := ⟨b, off, none⟩) hbl).trans hc0
    have m1 := (hA.cell (p := ⟨b, off + 1, none⟩) hbl).trans hc1
    have m2 := (hA.cell (p := ⟨b, off + 2, none⟩) hbl).trans hc2
    have m3 := (hA.cell (p := ⟨b, off + 3, none⟩) hbl).trans hc3
    have m4 := (hA.cell (p := ⟨b, off + 4, none⟩) hbl).trans hc4
    go_wp2_with fail
    refine (equal5 g b off _ 0 0 0 0 _ a1 a2 a3 a4 _ d0 d1 d2 d3 d4 m0 m1 m2 m3 m4).mono ?_
    rintro e w3 ⟨rfl, q, rfl⟩
    clear d0 d1 d2 d3 d4 m0 m1 m2 m3 m4
    have hs := hA.size
    have r0 : w2.cell? ⟨w.heap.size, 0, none⟩ = some (.int .i64 0) := by go_simp
    have r1 : w2.cell? ⟨w.heap.size, 1, none⟩ = some (.int .i64 0) := by go_simp
    have r2 : w2.cell? ⟨w.heap.size, 2, none⟩ = some (.int .i64 0) := by go_simp
    have r3 : w2.cell? ⟨w.heap.size, 3, none⟩ = some (.int .i64 0) := by go_simp
    have r4 : w2.cell? ⟨w.heap.size, 4, none⟩ = some (.int .i64 0) := by go_simp
    have r5 : w2.cell? ⟨w.heap.size, 5, none⟩ = some (.int .i64 0) := by go_simp
    go_wp2
    refine bodyPost_ret (by simp [results, Tryd.results19, go_sem, r0, r1, r2, r3, r4, r5]; rfl) rfl ⟨rfl, ?_⟩
    go_light
    repeat' (first | (with_reducible exact hA) | (with_reducible exact below_drewN hA _) | (with_reducible refine Below.setCell ?_ ?_ _) | exact Nat.le_refl _)

set_option maxHeartbeats 4000000 in
theorem read_pt (b off : Nat) (k a1 a2 a3 a4 : Int) (w : World) (hc0 : w.cell? ⟨b, off, none⟩ = some (.int .u8 k)) (hc1 : w.cell? ⟨b, off + 1, none⟩ = some (.int .u8 a1)) (hc2 : w.cell? ⟨b, off + 2, none⟩ = some (.int .u8 a2))
    (hc3 : w.cell? ⟨b, off + 3, none⟩ = some (.int .u8 a3)) (hc4 : w.cell? ⟨b, off + 4, none⟩ = some (.int .u8 a4)) (h1 : 0 ≤ a1) (h1' : a1 ≤ 255) (h2 : 0 ≤ a2) (h2' : a2 ≤ 255) (h3 : 0 ≤ a3) (h3' : a3 ≤ 255) (h4 : 0 ≤ a4) (h4' : a4 ≤ 255)
    (P : Int) (hP : bits .or .i64 (bits .or .i64 (a1 * 65536) (a2 * 256)) a3 = P) (hk : k = 7 ∨ k = 8 ∨ k = 9) (hz : a4 = 0) :
    Calls Tryd.prog 19 #[.slice (some ⟨b, off, none⟩) 5 5] w fun e w' => e = .returned (⟨k, 0, 0, 0, 0, P⟩ : Ent).val ∧ Below w.heap.size w w' := by
  have hbl := lt_of_cell hc0
  have hne : b ≠ w.heap.size := by omega
  have hne1 : b ≠ w.heap.size + 1 := by omega
  subst hz
  have hv := pick_or a1 a2 a3 h1 h1' h2 h2' h3 h3'
  rw [hP] at hv
  have hp0 : 0 ≤ P := by omega
  have hp1 : P < 16777216 := by omega
  have hf : entB k 0 0 0 0 P = true := by rcases hk with rfl | rfl | rfl <;> simp [entB, hp0, hp1]
  have E1 : Hid (P / 65536 = a1) := by show P / 65536 = a1; omega
  have E2 : Hid (P / 256 % 256 = a2) := by show P / 256 % 256 = a2; omega
  have E3 : Hid (P % 256 = a3) := by show P % 256 = a3; omega
  clear hv
  rcases hk with rfl | rfl | rfl
  all_goals
    go_enter Tryd.func19, Tryd.ntmps19
    go_wp2_with fail
    go_quiet (fail)
    go_wp2_with fail
    refine (entok_any _ _ _ _ _ _ _).mono ?_
    rintro e w1 ⟨rfl, hb1⟩
    have hA1 : Below w.heap.size w w1 := by
      refine Below.trans ?_ (hb1.mono ?_)
      · go_grown <;> (refine below_drewN ?_ _; go_grown)
      · simp; omega
    obtain ⟨kc, kf, kz⟩ := belowK hb1 (K := w.heap.size + 2) (by simp)
    go_wp2_with fail
    refine (write_pk _ _ _ _ _ _ (by decide) ⟨hp0, hp1⟩ E1.out E2.out E3.out).mono ?_
    rintro e w2 ⟨⟨v, rfl, g, rfl, hg, hg2, d0, d1, d2, d3, d4⟩, hb2⟩
    clear kc kf
    have hA := hA1.trans (hb2.mono (by omega))
    have hb12 := below12 hb1 hb2 (K := w.heap.size + 2) (by simp)
    obtain ⟨kc, kf, kz2⟩ := belowK' hb12 (by simp)
    have m0 := (hA.cell (p := ⟨b, off, none⟩) hbl).trans hc0
    have m1 := (hA.cell (p := ⟨b, off + 1, none⟩) hbl).trans hc1
    have m2 := (hA.cell (p := ⟨b, off + 2, none⟩) hbl).trans hc2
    have m3 := (hA.cell (p := ⟨b, off + 3, none⟩) hbl).trans hc3
    have m4 := (hA.cell (p := ⟨b, off + 4, none⟩) hbl).trans hc4
    go_wp2_with fail
    refine (equal5 g b off _ a1 a2 a3 0 _ a1 a2 a3 0 _ d0 d1 d2 d3 d4 m0 m1 m2 m3 m4).mono ?_
    rintro e w3 ⟨rfl, q, rfl⟩
    clear d0 d1 d2 d3 d4 m0 m1 m2 m3 m4
    have hs := hA.size
    have r0 : w2.cell? ⟨w.heap.size, 0, none⟩ = some (.int .i64 0) := by go_simp
    have r1 : w2.cell? ⟨w.heap.size, 1, none⟩ = some (.int .i64 0) := by go_simp
    have r2 : w2.cell? ⟨w.heap.size, 2, none⟩ = some (.int .i64 0) := by go_simp
    have r3 : w2.cell? ⟨w.heap.size, 3, none⟩ = some (.int .i64 0) := by go_simp
    have r4 : w2.cell? ⟨w.heap.size, 4, none⟩ = some (.int .i64 0) := by go_simp
    have r5 : w2.cell? ⟨w.heap.size, 5, none⟩ = some (.int .i64 0) := by go_simp
    go_wp2
    refine bodyPost_ret (by simp [results, Tryd.results19, go_sem, r0, r1, r2, r3, r4, r5]; rfl) rfl ⟨rfl, ?_⟩
    go_light
    repeat' (first | (with_reducible exact hA) | (with_reducible exact below_drewN hA _) | (with_reducible refine Below.setCell ?_ ?_ _) | exact Nat.le_refl _)

set_option maxHeartbeats 4000000 in
theorem read_pz (b off : Nat) (k a1 a2 a3 a4 : Int) (w : World) (hc0 : w.cell? ⟨b, off, none⟩ = some (.int .u8 k)) (hc1 : w.cell? ⟨b, off + 1, none⟩ = some (.int .u8 a1)) (hc2 : w.cell? ⟨b, off + 2, none⟩ = some (.int .u8 a2))
    (hc3 : w.cell? ⟨b, off + 3, none⟩ = some (.int .u8 a3)) (hc4 : w.cell? ⟨b, off + 4, none⟩ = some (.int .u8 a4)) (h1 : 0 ≤ a1) (h1' : a1 ≤ 255) (h2 : 0 ≤ a2) (h2' : a2 ≤ 255) (h3 : 0 ≤ a3) (h3' : a3 ≤ 255) (h4 : 0 ≤ a4) (h4' : a4 ≤ 255)
    (P : Int) (hP : bits .or .i64 (bits .or .i64 (a1 * 65536) (a2 * 256)) a3 = P) (hk : k = 7 ∨ k = 8 ∨ k = 9) (hz : (0 == a4) = false) :
    Calls Tryd.prog 19 #[.slice (some ⟨b, off, none⟩) 5 5] w fun e w' => e = .returned (Ent.none).val ∧ Below w.heap.size w w' := by
  have hbl := lt_of_cell hc0
  have hne : b ≠ w.heap.size := by omega
  have hne1 : b ≠ w.heap.size + 1 := by omega
  have hv := pick_or a1 a2 a3 h1 h1' h2 h2' h3 h3'
  rw [hP] at hv
  have hp0 : 0 ≤ P := by omega
  have hp1 : P < 16777216 := by omega
  have hf : entB k 0 0 0 0 P = true := by rcases hk with rfl | rfl | rfl <;> simp [entB, hp0, hp1]
  have E1 : Hid (P / 65536 = a1) := by show P / 65536 = a1; omega
  have E2 : Hid (P / 256 % 256 = a2) := by show P / 256 % 256 = a2; omega
  have E3 : Hid (P % 256 = a3) := by show P % 256 = a3; omega
  clear hv
  rcases hk with rfl | rfl | rfl
  all_goals
    go_enter Tryd.func19, Tryd.ntmps19
    go_wp2_with fail
    go_quiet (fail)
    go_wp2_with fail
    refine (entok_any _ _ _ _ _ _ _).mono ?_
    rintro e w1 ⟨rfl, hb1⟩
    have hA1 : Below w.heap.size w w1 := by
      refine Below.trans ?_ (hb1.mono ?_)
      · go_grown <;> (refine below_drewN ?_ _; go_grown)
      · simp; omega
    obtain ⟨kc, kf, kz⟩ := belowK hb1 (K := w.heap.size + 2) (by simp)
    go_wp2_with fail
    refine (write_pk _ _ _ _ _ _ (by decide) ⟨hp0, hp1⟩ E1.out E2.out E3.out).mono ?_
    rintro e w2 ⟨⟨v, rfl, g, rfl, hg, hg2, d0, d1, d2, d3, d4⟩, hb2⟩
    clear kc kf
    have hA := hA1.trans (hb2.mono (by omega))
    have hb12 := below12 hb1 hb2 (K := w.heap.size + 2) (by simp)
    obtain ⟨kc, kf, kz2⟩ := belowK' hb12 (by simp)
    have m0 := (hA.cell (p := ⟨b, off, none⟩) hbl).trans hc0
    have m1 := (hA.cell (p := ⟨b, off + 1, none⟩) hbl).trans hc1
    have m2 := (hA.cell (p := ⟨b, off + 2, none⟩) hbl).trans hc2
    have m3 := (hA.cell (p := ⟨b, off + 3, none⟩) hbl).trans hc3
    have m4 := (hA.cell (p := ⟨b, off + 4, none⟩) hbl).trans hc4
    go_wp2_with fail
    refine (equal5 g b off _ a1 a2 a3 0 _ a1 a2 a3 a4 _ d0 d1 d2 d3 d4 m0 m1 m2 m3 m4).mono ?_
    rintro e w3 ⟨rfl, q, rfl⟩
    clear d0 d1 d2 d3 d4 m0 m1 m2 m3 m4
    have hs := hA.size
    have r0 : w2.cell? ⟨w.heap.size, 0, none⟩ = some (.int .i64 0) := by go_simp
    have r1 : w2.cell? ⟨w.heap.size, 1, none⟩ = some (.int .i64 0) := by go_simp
    have r2 : w2.cell? ⟨w.heap.size, 2, none⟩ = some (.int .i64 0) := by go_simp
    have r3 : w2.cell? ⟨w.heap.size, 3, none⟩ = some (.int .i64 0) := by go_simp
    have r4 : w2.cell? ⟨w.heap.size, 4, none⟩ = some (.int .i64 0) := by go_simp
    have r5 : w2.cell? ⟨w.heap.size, 5, none⟩ = some (.int .i64 0) := by go_simp
    go_wp2
    refine bodyPost_ret (by simp [results, Tryd.results19, go_sem, r0, r1, r2, r3, r4, r5]; rfl) rfl ⟨rfl, ?_⟩
    go_light
    repeat' (first | (with_reducible exact hA) | (with_reducible exact below_drewN hA _) | (with_reducible refine Below.setCell ?_ ?_ _) | exact Nat.le_refl _)

set_option maxHeartbeats 4000000 in
theorem read_of (b off : Nat) (k a1 a2 a3 a4 : Int) (w : World) (hc0 : w.cell? ⟨b, off, none⟩ = some (.int .u8 k)) (hc1 : w.cell? ⟨b, off + 1, none⟩ = some (.int .u8 a1)) (hc2 : w.cell? ⟨b, off + 2, none⟩ = some (.int .u8 a2))
    (hc3 : w.cell? ⟨b, off + 3, none⟩ = some (.int .u8 a3)) (hc4 : w.cell? ⟨b, off + 4, none⟩ = some (.int .u8 a4)) (h1 : 0 ≤ a1) (h1' : a1 ≤ 255) (h2 : 0 ≤ a2) (h2' : a2 ≤ 255) (h3 : 0 ≤ a3) (h3' : a3 ≤ 255) (h4 : 0 ≤ a4) (h4' : a4 ≤ 255)
    (hk : 9 < k) (hk255 : k ≤ 255) :
    Calls Tryd.prog 19 #[.slice (some ⟨b, off, none⟩) 5 5] w fun e w' => e = .returned (Ent.none).val ∧ Below w.heap.size w w' := by
  have hbl := lt_of_cell hc0
  have hne : b ≠ w.heap.size := by omega
  have hne1 : b ≠ w.heap.size + 1 := by omega
  have hf : entB k 0 0 0 0 0 = false := entB_other k 0 0 0 0 0 (.inr hk)
  have hk00 : 0 ≤ k := by omega
  have hk0 : (k == 0) = false := by simp; omega
  have hk1 : (k == 1) = false := by simp; omega
  have hk2 : (k == 2) = false := by simp; omega
  have hk3 : (k == 3) = false := by simp; omega
  have hk4 : (k == 4) = false := by simp; omega
  have hk5 : (k == 5) = false := by simp; omega
  have hk6 : (k == 6) = false := by simp; omega
  have hk7 : (k == 7) = false := by simp; omega
  have hk8 : (k == 8) = false := by simp; omega
  have hk9 : (k == 9) = false := by simp; omega
  clear hk
  go_enter Tryd.func19, Tryd.ntmps19
  go_wp2_with fail
  go_quiet (fail)
  go_wp2_with fail
  refine (entok_any _ _ _ _ _ _ _).mono ?_
  rintro e w1 ⟨rfl, hb1⟩
  have hA1 : Below w.heap.size w w1 := by
    refine Below.trans ?_ (hb1.mono ?_)
    · go_grown <;> (refine below_drewN ?_ _; go_grown)
    · simp; omega
  obtain ⟨kc, kf, kz⟩ := belowK hb1 (K := w.heap.size + 2) (by simp)
  have hA := hA1
  have hs := hA.size
  have r0 : w1.cell? ⟨w.heap.size, 0, none⟩ = some (.int .i64 0) := by go_simp
  have r1 : w1.cell? ⟨w.heap.size, 1, none⟩ = some (.int .i64 0) := by go_simp
  have r2 : w1.cell? ⟨w.heap.size, 2, none⟩ = some (.int .i64 0) := by go_simp
  have r3 : w1.cell? ⟨w.heap.size, 3, none⟩ = some (.int .i64 0) := by go_simp
  have r4 : w1.cell? ⟨w.heap.size, 4, none⟩ = some (.int .i64 0) := by go_simp
  have r5 : w1.cell? ⟨w.heap.size, 5, none⟩ = some (.int .i64 0) := by go_simp
  go_wp2
  refine bodyPost_ret (by simp [results, Tryd.results19, go_sem, r0, r1, r2, r3, r4, r5]; rfl) rfl ⟨rfl, ?_⟩
  go_light
  repeat' (first | (with_reducible exact hA) | (with_reducible exact below_drewN hA _) | (with_reducible refine Below.setCell ?_ ?_ _) | exact Nat.le_refl _)

end Go.Proofs.YtkmmhdghkbleaaaDoor

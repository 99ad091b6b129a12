/-
  The walk of catchboltlaw19.ScriptBack: it answers true at whatever bytes and entries. No conditions.
-/
import Derived.Test.YtkmmhdghkbleaaaBackA
namespace Go.Proofs.Ytkmmhdghkbleaaa
open Go.ChangeShapes Go.WideShapes Go.ChangeAt Go.RowKit
set_option linter.unusedVariables false

set_option maxRecDepth 100000 in
set_option maxHeartbeats 8000000 in
theorem back_true (A1 A2 : Option Addr) (n1 c1 n2 c2 : Nat) (bs : List Int) (ls : List Ent) (w : World) (ha : RdB w A1 n1 bs) (hl : RdEo w A2 ls) (hn2 : ls.length = n2) (hm1 : n1 ≤ 5000) (hm2 : n2 ≤ 500) (hc1 : n1 ≤ c1) (hc2 : n2 ≤ c2) :
    Calls Try.prog 5 #[.slice A1 n1 c1, .slice A2 n2 c2] w fun e w' => e = .returned (.bool true) ∧ Below w.heap.size w w' := by
  have hm1' : ¬ (5000 : Int) < n1 := by omega
  have hm2' : ¬ (500 : Int) < n2 := by omega
  have HL := Lib.hid hl
  have HN2 := Lib.hid hn2
  clear hl hn2
  go_enter Try.func5, Try.ntmps5
  go_wp2_with fail
  refine (alive_true _).mono ?_
  rintro e w1 ⟨rfl, hb1⟩
  have ha1 := ha.below hb1
  go_wp2_with fail
  refine (parse_any A1 n1 c1 bs w1 ha1 (by omega) hc1).mono ?_
  rintro e w2 ⟨⟨v2, rfl, hown2⟩, hb2⟩
  have hpl := parsed_length bs
  have hla := ha.1
  have hok := parsed_ok ha.2.1
  obtain ⟨X2, k2, rfl, _, r2⟩ := rde_of_own hown2
  generalize parsed bs = es at *
  obtain ⟨N, hN⟩ : ∃ N, es.length = N := ⟨_, rfl⟩
  have hNn : N = (n1 + 4) / 5 := by omega
  have hN1 : ((n1 : Int) + 4) / 5 = N := by omega
  have hNm : N ≤ 1001 := by omega
  have HN := Lib.hid hN
  simp only [hN]
  clear hpl hown2 hN hNn
  go_wp2_with fail
  refine (encode_n X2 N k2 es w2 r2 HN.out (by omega)).mono ?_
  rintro e w3 ⟨hE, hb3⟩
  rcases hE with ⟨_, v3, rfl, hown3⟩ | ⟨i, g, hi, hbad, _⟩
  case inr =>
    have := hok (es.getD i Ent.none) (by rw [List.getD_eq_getElem?_getD, List.getElem?_eq_getElem hi]; exact List.getElem_mem _)
    rw [this] at hbad; cases hbad
  obtain ⟨X3, k3, rfl, hk3, r3⟩ := rdb_of_own hown3 (wrs_range hok)
  obtain ⟨M, hM⟩ : ∃ M, 5 * es.length = M := ⟨_, rfl⟩
  have hM5 : (M : Int) = 5 * N := by have := HN.out; omega
  have hMm : M ≤ 6000 := by omega
  rw [hM] at hk3 r3
  simp only [hM]
  clear hM hown3
  go_wp2_with fail
  refine (parse_any X3 M k3 (wrs es) w3 r3 (by omega) hk3).mono ?_
  rintro e w4 ⟨⟨v4, rfl, hown4⟩, hb4⟩
  rw [parsed_wrs hok] at hown4
  obtain ⟨X4, k4, rfl, _, r4⟩ := rde_of_own hown4
  have r2' := (r2.below hb3).below hb4
  have hs1 := hb1.size
  have hs2 := hb2.size
  have hs3 := hb3.size
  have hs4 := hb4.size
  have hB4 : Below w.heap.size w w4 := ((hb1.trans (hb2.mono hs1)).trans (hb3.mono (by omega))).trans (hb4.mono (by omega))
  have HOK := Lib.hid hok
  simp only [HN.out]
  clear hown4 r2 r3 hok ha1
  go_wp2
  go_loopw [9] (fun i wr => ∃ j : Nat, j ≤ N ∧ i = .int .i64 j ∧ Below w4.heap.size w4 wr) (fun i _ => N - (intOf i).toNat)
  case atStart => exact ⟨0, by omega, rfl, Below.refl _ _⟩
  case round =>
    obtain ⟨j, hj, rfl, hbr⟩ := hrel
    clear hN1 hM5
    by_cases hlt : j < N
    · have hlt' : (j : Int) < N := by omega
      have hj0 : (0 : Int) ≤ j := by omega
      obtain ⟨ga, hA2, hca⟩ := r2'.below hbr
      obtain ⟨rfl, hga⟩ := hA2 (by rw [HN.out]; omega)
      obtain ⟨gb, hA4, hcb⟩ := r4.below hbr
      obtain ⟨rfl, hgb⟩ := hA4 (by rw [HN.out]; omega)
      have pa := hca j (by rw [HN.out]; exact hlt)
      have pb := hcb j (by rw [HN.out]; exact hlt)
      have hEok := HOK.out (es.getD j Ent.none) (by rw [List.getD_eq_getElem?_getD, List.getElem?_eq_getElem (by rw [HN.out]; exact hlt)]; exact List.getElem_mem _)
      clear hca hcb hA2 hA4
      generalize es.getD j Ent.none = E at *
      obtain ⟨ek, ec, et, er, em, ep⟩ := E
      have hEok' : entB ek ec et er em ep = true := hEok
      rw [Nat.mul_comm 6 j] at pa pb
      have PA := Lib.hid pa
      have PB := Lib.hid pb
      unfold Cells6 at pa pb
      simp only at pa pb
      obtain ⟨p0, p1, p2, p3, p4, p5⟩ := pa
      obtain ⟨q0, q1, q2, q3, q4, q5⟩ := pb
      go_wp2
      go_region_held3 (fun w' => (w'.cell? ⟨ga, j * 6, none⟩ = some (.int .i64 ek) ∧ w'.cell? ⟨ga, j * 6 + 1, none⟩ = some (.int .i64 ec) ∧ w'.cell? ⟨ga, j * 6 + 2, none⟩ = some (.int .i64 et) ∧ w'.cell? ⟨ga, j * 6 + 3, none⟩ = some (.int .i64 er) ∧ w'.cell? ⟨ga, j * 6 + 4, none⟩ = some (.int .i64 em) ∧ w'.cell? ⟨ga, j * 6 + 5, none⟩ = some (.int .i64 ep)) ∧
          (w'.cell? ⟨gb, j * 6, none⟩ = some (.int .i64 ek) ∧ w'.cell? ⟨gb, j * 6 + 1, none⟩ = some (.int .i64 ec) ∧ w'.cell? ⟨gb, j * 6 + 2, none⟩ = some (.int .i64 et) ∧ w'.cell? ⟨gb, j * 6 + 3, none⟩ = some (.int .i64 er) ∧ w'.cell? ⟨gb, j * 6 + 4, none⟩ = some (.int .i64 em) ∧ w'.cell? ⟨gb, j * 6 + 5, none⟩ = some (.int .i64 ep)))
        (first
          | go_keep
          | (constructor <;> assumption))
        (first | (go_at_call 11; refine (entok_any ek ec et er em ep _).mono ?_; rintro e w5 ⟨rfl, hb5⟩; rw [hEok']; have hb6 : Below wr.heap.size wr w5 := (Below.drew (Below.refl wr.heap.size wr)).trans hb5; have ta := Cells6.below (PA.out) hb6 hga; have tb := Cells6.below (PB.out) hb6 hgb; unfold Cells6 at ta tb; simp only at ta tb))
      go_wp2
      go_roundw
      case rel => exact ⟨j + 1, by omega, by go_num, by first | exact hbr.trans (hb6.mono hbr.size) | exact (hbr.trans (hb6.mono hbr.size)).drew⟩
      case measure => simp [intOf]; omega
    · have hk' : j = N := by omega
      subst hk'
      have hge : ¬ (j : Int) < j := by omega
      have hBr := hB4.trans (hbr.mono (show w.heap.size ≤ w4.heap.size by omega))
      clear r4 r2' HOK hB4 hbr HN
      go_wp2
      go_loopw [10, 11] (fun o i wx => ∃ k : Nat, k ≤ n2 ∧ i = .int .i64 k ∧ wx.ownsRow w.heap.size 35 6 o k (flat (ls.take k)) ∧ Below w.heap.size w wx) (fun _ i _ => n2 - (intOf i).toNat)
      case atStart => exact ⟨0, by omega, rfl, World.ownsRow_nil _ _ _ _, hBr⟩
      case round =>
        obtain ⟨k, hk, rfl, hown, hbx⟩ := hrel
        by_cases hlt2 : k < n2
        · have hlt' : (k : Int) < n2 := by omega
          have hk0 : (0 : Int) ≤ k := by omega
          have hsx := hbx.size
          obtain ⟨gl, ol, hAl, hcl⟩ := (HL.out).below hbx
          obtain ⟨rfl, hgl⟩ := hAl (by rw [HN2.out]; omega)
          obtain ⟨p0, p1, p2, p3, p4, p5⟩ := hcl k (by rw [HN2.out]; exact hlt2)
          have HT := Lib.hid (take_snoc (es := ls) (k := k) (by rw [HN2.out]; exact hlt2))
          clear hAl hcl
          generalize ls.getD k Ent.none = E at *
          obtain ⟨ek, ec, et, er, em, ep⟩ := E
          simp only at p0 p1 p2 p3 p4 p5
          go_wp2_with fail
          refine (of_any ek ec et er em ep _).mono ?_
          rintro e w5 ⟨rfl, hb5⟩
          have hown5 := (own_below hown hb5).alloc (.cells #[.int .i64 ek, .int .i64 ec, .int .i64 et, .int .i64 er, .int .i64 em, .int .i64 ep] 35)
          have hb5' := hbx.trans (hb5.mono hsx)
          have hb6' := hb5'.alloc hb5'.size (.cells #[.int .i64 ek, .int .i64 ec, .int .i64 et, .int .i64 er, .int .i64 em, .int .i64 ep] 35)
          go_wp2_with (at_builtin; refine wpList_append_ents rfl _ _ rfl rfl w.heap.size _ _ _ rfl hown5 _ 1 1 [⟨ek, ec, et, er, em, ep⟩] rfl rfl (rdeo_one w5 ek ec et er em ep 35) hb6'.size (by omega) ?_; intro v7 w7 hown7 hg7)
          go_roundw
          case rel =>
            refine ⟨k + 1, by omega, by go_num, ?_, Below.grown hb6' hg7 hb6'.size (fun q hq => (hown5.lt q hq).1)⟩
            rw [HT.out, flat_append]; exact hown7
          case measure => simp [intOf]; omega
        · have hk' : k = n2 := by omega
          subst hk'
          have hge : ¬ (k : Int) < k := by omega
          rw [List.take_of_length_le (by rw [HN2.out]; exact Nat.le_refl _)] at hown
          have hn2 := HN2.out
          rw [← hn2] at hown
          obtain ⟨X5, k5, rfl, _, r5⟩ := rde_of_own hown
          rw [hn2]
          clear hn2 hown
          go_wp2_with fail
          refine (encode_n X5 k k5 ls _ r5 HN2.out (by omega)).mono ?_
          rintro e w6 ⟨hE, hb6⟩
          have hsx := hbx.size
          have hbx6 := hbx.trans (hb6.mono hsx)
          have r6 := r5.below hb6
          rcases hE with ⟨hok2, v6, rfl, hown6⟩ | ⟨i, g, hi, hbad, _, rfl, _⟩
          · obtain ⟨X6, k6, rfl, hk6, rr6⟩ := rdb_of_own hown6 (wrs_range hok2)
            obtain ⟨M2, hM2⟩ : ∃ M, 5 * ls.length = M := ⟨_, rfl⟩
            have hMm2 : M2 ≤ 6000 := by have := HN2.out; omega
            rw [hM2] at hk6 rr6
            simp only [hM2]
            clear hM2 hown6 r5
            go_wp2_with fail
            refine (parse_any X6 M2 k6 (wrs ls) w6 rr6 (by omega) hk6).mono ?_
            rintro e w7 ⟨⟨v7, rfl, hown7⟩, hb7⟩
            rw [parsed_wrs hok2] at hown7
            obtain ⟨X7, k7, rfl, _, r7⟩ := rde_of_own hown7
            have hbx7 := hbx6.trans (hb7.mono hbx6.size)
            have r67 := r6.below hb7
            simp only [HN2.out]
            clear hown7 rr6 r6 hok2
            go_wp2
            go_loopw [15] (fun i wy => ∃ q : Nat, q ≤ k ∧ i = .int .i64 q ∧ Below w7.heap.size w7 wy) (fun i _ => k - (intOf i).toNat)
            case atStart => exact ⟨0, by omega, rfl, Below.refl _ _⟩
            case round =>
              obtain ⟨q, hq, rfl, hby⟩ := hrel
              by_cases hlt3 : q < k
              · have hlt' : (q : Int) < k := by omega
                have hk0 : (0 : Int) ≤ q := by omega
                obtain ⟨ga, hAa, hca⟩ := r67.below hby
                obtain ⟨rfl, hga⟩ := hAa (by rw [HN2.out]; omega)
                obtain ⟨gb, hAb, hcb⟩ := r7.below hby
                obtain ⟨rfl, hgb⟩ := hAb (by rw [HN2.out]; omega)
                obtain ⟨p0, p1, p2, p3, p4, p5⟩ := hca q (by rw [HN2.out]; exact hlt3)
                obtain ⟨q0, q1, q2, q3, q4, q5⟩ := hcb q (by rw [HN2.out]; exact hlt3)
                clear hca hcb hAa hAb
                generalize ls.getD q Ent.none = E at *
                obtain ⟨ek, ec, et, er, em, ep⟩ := E
                simp only at p0 p1 p2 p3 p4 p5 q0 q1 q2 q3 q4 q5
                rw [Nat.mul_comm 6 q] at p0 p1 p2 p3 p4 p5 q0 q1 q2 q3 q4 q5
                go_wp2
                go_quiet (fail)
                go_wp2
                go_roundw
                case rel => exact ⟨q + 1, by omega, by go_num, by first | exact hby | exact Below.drew hby | (go_light; exact below_drewN hby _)⟩
                case measure => simp [intOf]; omega
              · have hk' : q = k := by omega
                subst hk'
                have hge : ¬ (q : Int) < q := by omega
                go_wp2
                go_ret
                exact ⟨rfl, hbx7.trans (hby.mono hbx7.size)⟩
          · go_wp2
            go_ret
            exact ⟨rfl, hbx6⟩
end Go.Proofs.Ytkmmhdghkbleaaa

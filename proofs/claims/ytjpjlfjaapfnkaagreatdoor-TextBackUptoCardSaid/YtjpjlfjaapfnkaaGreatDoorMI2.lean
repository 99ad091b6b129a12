/-
  TextBack. No conditions beyond those that each theorem states.
-/
import Derived.Test.YtjpjlfjaapfnkaaGreatDoorMH2
import Derived.Test.YtjpjlfjaapfnkaaGreatDoorMP
namespace Go.Proofs.YtjpjlfjaapfnkaaGreatDoor
open Go.ChangeShapes Go.WideShapes Go.ChangeAt Go.RowKit
open C20 (Ev formB evC)
set_option linter.unusedVariables false
set_option linter.unusedSimpArgs false
theorem jn_len {c : UInt8} {k : Nat} : ∀ {ws : List (List UInt8)}, (∀ w ∈ ws, w.length ≤ k) → (jnL c ws).length ≤ ws.length * (k + 1)
  | [], _ => by simp [jnL]
  | [w], h => by have := h w (by simp); simp [jnL]; omega
  | w :: v :: r, h => by
    have h1 := h w (by simp)
    have h2 := jn_len (c := c) (k := k) (ws := v :: r) (fun x hx => h x (List.mem_cons_of_mem _ hx))
    rw [jn_cons c w (by simp)]
    simp only [List.length_append, List.length_cons] at h2 ⊢
    have e : (r.length + 1 + 1) * (k + 1) = (r.length + 1) * (k + 1) + (k + 1) := by rw [Nat.succ_mul]
    omega
theorem decI_len {x : Int} (h : x ≤ 99999999) : (decI x).length ≤ 16 := by
  have := dec_len (n := x.toNat) (k := 8) (by have e8 : (10 : Nat) ^ 8 = 100000000 := by decide
                                              rw [e8]; omega) (by omega)
  unfold decI; omega
theorem textI_len (t r : Int) : (textI t r).length ≤ 16 := by
  have h1 := dig_len t.toNat
  have h2 := dig_len r.toNat
  unfold textI textL
  split <;> simp <;> omega
theorem modeW_len (m : Int) : (modeW m).length ≤ 16 := by
  unfold modeW modeL; (repeat' split) <;> decide
theorem evName_len (k : Nat) : (evName k).length ≤ 16 := by unfold evName; split <;> simp
theorem entName_len (k : Nat) : (entName k).length ≤ 16 := by unfold entName; split <;> simp
theorem evW_len {e : Ev} (h : evOk e = true) : (∀ w ∈ evW e, w.length ≤ 16) ∧ (evW e).length ≤ 4 := by
  unfold evOk at h
  rw [Bool.and_eq_true, decide_eq_true_eq] at h
  obtain ⟨hf, hx⟩ := h
  refine ⟨?_, by unfold evW; (repeat' split) <;> simp⟩
  intro w hw
  have key : e.client ≤ 99999999 ∧ e.code ≤ 99999999 := by
    rcases form_cases hf with ⟨q, a, b, c⟩ | ⟨hk, q, a⟩ | ⟨q, a, b, c, d⟩ | ⟨hk, q, a⟩ | ⟨q, a, b, c⟩ | ⟨q, b, c⟩
    all_goals
      have k1 := congrArg Ev.client q
      have k2 := congrArg Ev.code q
      simp only at k1 k2
      omega
  obtain ⟨kc, kd⟩ := key
  unfold evW at hw
  (repeat' split at hw) <;> simp only [List.mem_cons, List.not_mem_nil, or_false] at hw
  all_goals
    first
    | (rcases hw with rfl | rfl | rfl | rfl <;> first | exact evName_len _ | exact decI_len (by omega) | exact textI_len _ _ | exact modeW_len _)
    | (rcases hw with rfl | rfl | rfl <;> first | exact evName_len _ | exact decI_len (by omega) | exact textI_len _ _ | exact modeW_len _)
    | (rcases hw with rfl | rfl <;> first | exact evName_len _ | exact decI_len (by omega) | exact textI_len _ _ | exact modeW_len _)
theorem evS_len (e : Ev) : (evS e).length ≤ 1000 := by
  unfold evS
  split
  · rename_i h
    obtain ⟨h1, h2⟩ := evW_len h
    have := jn_len (c := 32) h1
    have h3 : (evW e).length * (16 + 1) ≤ 4 * 17 := Nat.mul_le_mul h2 (Nat.le_refl _)
    unfold evT; omega
  · simp
theorem entW_len {e : Ent} (h : e.may = true) : (∀ w ∈ entW e, w.length ≤ 16) ∧ (entW e).length ≤ 4 := by
  refine ⟨?_, by unfold entW; (repeat' split) <;> simp⟩
  intro w hw
  have key : e.c ≤ 99999999 ∧ e.p ≤ 99999999 := by
    rcases may_cases h with ⟨hk, q⟩ | ⟨q, a1, a2, b1, b2, c1, c2, d1, d2⟩ | ⟨hk, q, a1, a2⟩ | ⟨hk, q, a1, a2⟩
    all_goals
      have k1 := congrArg Ent.c q
      have k2 := congrArg Ent.p q
      simp only at k1 k2
      omega
  obtain ⟨kc, kd⟩ := key
  unfold entW at hw
  (repeat' split at hw) <;> simp only [List.mem_cons, List.not_mem_nil, or_false] at hw
  · subst hw; exact entName_len _
  · rcases hw with rfl | rfl | rfl | rfl
    · exact entName_len _
    · exact decI_len (by omega)
    · exact textI_len _ _
    · exact modeW_len _
  · rcases hw with rfl | rfl
    · exact entName_len _
    · exact decI_len (by omega)
  · rcases hw with rfl | rfl
    · exact entName_len _
    · exact decI_len (by omega)
theorem entS_len (e : Ent) : (entS e).length ≤ 1000 := by
  unfold entS
  split
  · rename_i h
    obtain ⟨h1, h2⟩ := entW_len h
    have := jn_len (c := 32) h1
    have h3 : (entW e).length * (16 + 1) ≤ 4 * 17 := Nat.mul_le_mul h2 (Nat.le_refl _)
    unfold entT; omega
  · simp
set_option maxRecDepth 100000 in
set_option maxHeartbeats 8000000 in
theorem textback_false (a : Ev) (x : Ent) (s : ByteArray) (w : World) (hT : TxW w) (hG : 9 ≤ w.heap.size) (hs : s.size < 4294967281) (hoa : evOk a = false) :
    Calls Tryz.prog 6 #[.agg (evC a), .agg (entA x), .string s] w fun e w' => e = .returned (.bool true) ∧ Below w.heap.size w w' := by
  obtain ⟨ox, hox⟩ : ∃ o, x.may = o := ⟨_, rfl⟩
  have hva0 : errV (evE a) = (if false = true then .nilIface else .iface 70 (.int .i64 (evE a))) := errV_of (by rw [evE_iff, hoa])
  have HVx := Lib.hid (errV_of (k := entE x) (o := ox) (by rw [← entE_iff, hox]))
  have HPx := Lib.hid (show ox = true → entP (bsA (entS x)).data.toList = some x from fun h => by
    subst h
    rw [bsA_list, show entS x = entT x from if_pos hox]; exact entP_iff.2 ⟨hox, rfl⟩)
  have HLx := Lib.hid (show (bsA (entS x)).size ≤ 1000 from by rw [bs_size]; exact entS_len x)
  have HPa := Lib.hid (show false = true → evP (bsA (evS a)).data.toList = some a from fun h => by
    have hok : evOk a = true := hoa.trans h
    rw [bsA_list, show evS a = evT a from if_pos hok]; exact evP_iff.2 ⟨hok, rfl⟩)
  have HLa := Lib.hid (show (bsA (evS a)).size ≤ 1000 from by rw [bs_size]; exact evS_len a)
  have HCa := Lib.hid (fun W (h : TxW W) => event_any a W h)
  have HCx := Lib.hid (fun W (h : TxW W) => entry_any x W h)
  clear hoa hox
  generalize hXa : bsA (evS a) = Xa at *
  generalize hXx : bsA (entS x) = Xx at *
  generalize evE a = ka at *
  generalize hva : errV ka = va at *
  generalize hvx : errV (entE x) = vx at *
  clear hXa hXx hva hvx
  generalize entE x = kx at *
  obtain rfl : va = .iface 70 (.int .i64 ka) := hva0
  obtain ⟨a0, a1, a2, a3, a4, a5, a6⟩ := a
  obtain ⟨x0, x1, x2, x3, x4, x5⟩ := x
  have ha := is7_new w ⟨a0, a1, a2, a3, a4, a5, a6⟩ 44
  have hb1 : Below w.heap.size w (w.alloc (.cells (evC ⟨a0, a1, a2, a3, a4, a5, a6⟩) 44)) := (Below.refl _ _).alloc (Nat.le_refl _) _
  obtain ⟨u1, hu1⟩ : ∃ X, w.alloc (.cells (evC ⟨a0, a1, a2, a3, a4, a5, a6⟩) 44) = X := ⟨_, rfl⟩
  have hs1 : u1.heap.size = w.heap.size + 1 := by rw [← hu1]; simp
  rw [hu1] at ha hb1
  have hx := is6_new u1 ⟨x0, x1, x2, x3, x4, x5⟩ 25
  have hb2 : Below u1.heap.size u1 (u1.alloc (.cells (entA ⟨x0, x1, x2, x3, x4, x5⟩) 25)) := (Below.refl _ _).alloc (Nat.le_refl _) _
  obtain ⟨u2, hu2⟩ : ∃ X, u1.alloc (.cells (entA ⟨x0, x1, x2, x3, x4, x5⟩) 25) = X := ⟨_, rfl⟩
  rw [hu2] at hx hb2
  have hb0 := hb1.trans (hb2.mono hb1.size)
  have HIa := Lib.hid (ha.below hb2)
  have HIx := Lib.hid hx
  rw [hs1] at HIx
  have HW4 := Lib.hid (show (w.alloc (.cells (evC ⟨a0, a1, a2, a3, a4, a5, a6⟩) 44)).alloc (.cells (entA ⟨x0, x1, x2, x3, x4, x5⟩) 25) = u2 from by rw [hu1, hu2])
  have HT := Lib.hid (hT.below hb0)
  have HG := Lib.hid (Nat.le_trans hG hb0.size)
  have HA := Lib.hid (alive_true u2 (hT.below hb0) (Nat.le_trans hG hb0.size))
  have HB0 := Lib.hid hb0
  unfold evC at HCa HW4 ⊢
  unfold entA at HCx HW4 ⊢
  simp only at HCa HCx HW4 ⊢
  clear hu1 hu2 hs1 ha hx hb1 hb2 hb0 hT hG
  go_enter Tryz.func6, Tryz.ntmps6
  go_wp2_with fail
  rw [HW4.out]
  refine HA.out.mono ?_
  rintro e w1 ⟨rfl, hb1⟩
  clear HA HW4
  obtain ⟨f0, f1, f2, f3, f4, f5, f6⟩ := HIa.out.below hb1
  simp only at f0 f1 f2 f3 f4 f5 f6
  go_wp2_with fail
  refine (HCa.out _ (HT.out.below hb1)).mono ?_
  rintro e w2 ⟨rfl, hb2⟩
  have hb2' := hb1.trans (hb2.mono hb1.size)
  clear f0 f1 f2 f3 f4 f5 f6 hb1 hb2
  obtain ⟨g0, g1, g2, g3, g4, g5⟩ := HIx.out.below hb2'
  simp only at g0 g1 g2 g3 g4 g5
  go_wp2_with fail
  clear g0 g1 g2 g3 g4 g5
  -- the entry: its text is read again
  refine (of_any x0 x1 x2 x3 x4 x5 _).mono ?_
  rintro e w6 ⟨rfl, hb6⟩
  have hb6' := hb2'.trans (hb6.mono hb2'.size)
  have hb7 : Below w6.heap.size w6 (w6.alloc (.cells #[.int .i64 x0, .int .i64 x1, .int .i64 x2, .int .i64 x3, .int .i64 x4, .int .i64 x5] 33)) := (Below.refl _ _).alloc (Nat.le_refl _) _
  have hb7' := hb6'.trans (hb7.mono hb6'.size)
  have HY := Lib.hid (is6_new w6 ⟨x0, x1, x2, x3, x4, x5⟩ 33)
  unfold entA at HY
  simp only at HY
  clear hb6 hb7
  go_wp2_with fail
  refine (HCx.out _ (HT.out.below hb7')).mono ?_
  rintro e w8 ⟨rfl, hb8⟩
  have hb8' := hb7'.trans (hb8.mono hb7'.size)
  have HY8 := Lib.hid (HY.out.below hb8)
  clear HY
  cases ox
  · obtain rfl : vx = .iface 70 (.int .i64 kx) := HVx.out
    clear hb8 HY8
    -- the text's event
    have HP3 := Lib.hid (parse_event s _ (HT.out.below hb8') (by omega) (Nat.le_trans HG.out hb8'.size))
    go_wp2_with fail
    refine HP3.out.mono ?_
    rintro e w11 ⟨hE11, hb11⟩
    have hb11' := hb8'.trans (hb11.mono hb8'.size)
    clear HP3
    (try clear zzz)
    cases hpe : evP s.data.toList with
    | none =>
      rw [hpe] at hE11
      obtain rfl : e = .returned (.tuple #[.agg #[.int .i64 0, .int .i64 0, .int .i64 0, .int .i64 0, .int .i64 0, .int .i64 0, .int .i64 0], .iface 70 (.int .i64 5)]) := hE11
      have hb12 := hb11'.alloc hb11'.size (.cells #[.int .i64 0, .int .i64 0, .int .i64 0, .int .i64 0, .int .i64 0, .int .i64 0, .int .i64 0] 44)
      clear hpe
      -- the text's entry; wp: the world behind the event's part
      have HP4 := Lib.hid (parse_entry s _ (HT.out.below hb12) (by omega) (Nat.le_trans HG.out hb12.size))
      go_wp2_with fail
      refine HP4.out.mono ?_
      rintro e w14 ⟨hE14, hb14⟩
      have hb14' := hb12.trans (hb14.mono hb12.size)
      clear HP4
      cases hpn : entP s.data.toList with
      | none =>
        rw [hpn] at hE14
        obtain rfl : e = .returned (.tuple #[.agg #[.int .i64 0, .int .i64 0, .int .i64 0, .int .i64 0, .int .i64 0, .int .i64 0], .iface 70 (.int .i64 5)]) := hE14
        have hb15 := hb14'.alloc hb14'.size (.cells #[.int .i64 0, .int .i64 0, .int .i64 0, .int .i64 0, .int .i64 0, .int .i64 0] 33)
        clear hpn
        go_wp2
        go_ret
        exact ⟨rfl, HB0.out.trans (hb15.mono HB0.out.size)⟩
      | some z =>
        rw [hpn] at hE14
        have hzz := entP_iff.1 hpn
        have HZE := Lib.hid (entry_ok z hzz.1)
        rw [hzz.2, bsA_of] at HZE
        obtain ⟨z0, z1, z2, z3, z4, z5⟩ := z
        obtain rfl : e = .returned (.tuple #[.agg #[.int .i64 z0, .int .i64 z1, .int .i64 z2, .int .i64 z3, .int .i64 z4, .int .i64 z5], .nilIface]) := hE14
        have hb15 : Below w14.heap.size w14 (w14.alloc (.cells #[.int .i64 z0, .int .i64 z1, .int .i64 z2, .int .i64 z3, .int .i64 z4, .int .i64 z5] 33)) := (Below.refl _ _).alloc (Nat.le_refl _) _
        have hb15' := hb14'.trans (hb15.mono hb14'.size)
        unfold entA at HZE
        simp only at HZE
        clear hpn hzz
        go_wp2_with fail
        refine (HZE.out _ (HT.out.below hb15')).mono ?_
        rintro e w16 ⟨rfl, hb16⟩
        have hb16' := hb15'.trans (hb16.mono hb15'.size)
        clear HZE hb15
        go_wp2
        go_ret
        exact ⟨rfl, HB0.out.trans (hb16'.mono HB0.out.size)⟩
    | some v =>
      rw [hpe] at hE11
      have hvv := evP_iff.1 hpe
      have HVE := Lib.hid (event_ok v hvv.1)
      rw [hvv.2, bsA_of] at HVE
      have HNO := Lib.hid (show ∀ z : Ent, z.may = true ∧ entT z = s.data.toList → False from fun z hz => ev_ent hvv.1 hz.1 (hvv.2.trans hz.2.symm))
      obtain ⟨v0, v1, v2, v3, v4, v5, v6⟩ := v
      obtain rfl : e = .returned (.tuple #[.agg #[.int .i64 v0, .int .i64 v1, .int .i64 v2, .int .i64 v3, .int .i64 v4, .int .i64 v5, .int .i64 v6], .nilIface]) := hE11
      have hb12 : Below w11.heap.size w11 (w11.alloc (.cells #[.int .i64 v0, .int .i64 v1, .int .i64 v2, .int .i64 v3, .int .i64 v4, .int .i64 v5, .int .i64 v6] 44)) := (Below.refl _ _).alloc (Nat.le_refl _) _
      have hb12' := hb11'.trans (hb12.mono hb11'.size)
      unfold evC at HVE
      simp only at HVE
      clear hpe hvv hb12
      go_wp2_with fail
      refine (HVE.out _ (HT.out.below hb12')).mono ?_
      rintro e w13 ⟨rfl, hb13⟩
      have hb13' := hb12'.trans (hb13.mono hb12'.size)
      clear HVE hb13 hb12' hb11'
      -- the text's entry; wp: the world behind the event's part
      have HP4 := Lib.hid (parse_entry s _ (HT.out.below hb13') (by omega) (Nat.le_trans HG.out hb13'.size))
      go_wp2_with fail
      refine HP4.out.mono ?_
      rintro e w14 ⟨hE14, hb14⟩
      have hb14' := hb13'.trans (hb14.mono hb13'.size)
      clear HP4
      cases hpn : entP s.data.toList with
      | none =>
        rw [hpn] at hE14
        obtain rfl : e = .returned (.tuple #[.agg #[.int .i64 0, .int .i64 0, .int .i64 0, .int .i64 0, .int .i64 0, .int .i64 0], .iface 70 (.int .i64 5)]) := hE14
        have hb15 := hb14'.alloc hb14'.size (.cells #[.int .i64 0, .int .i64 0, .int .i64 0, .int .i64 0, .int .i64 0, .int .i64 0] 33)
        clear hpn
        go_wp2
        go_ret
        exact ⟨rfl, HB0.out.trans (hb15.mono HB0.out.size)⟩
      | some z => exact (HNO.out z (entP_iff.1 hpn)).elim
  · obtain rfl : vx = .nilIface := HVx.out
    have HP2 := Lib.hid (parse_entry Xx w8 (HT.out.below hb8') (by have := HLx.out; omega) (Nat.le_trans HG.out hb8'.size))
    rw [HPx.out rfl] at HP2
    go_wp2_with fail
    refine HP2.out.mono ?_
    rintro e w9 ⟨hE9, hb9⟩
    obtain rfl : e = .returned (.tuple #[.agg #[.int .i64 x0, .int .i64 x1, .int .i64 x2, .int .i64 x3, .int .i64 x4, .int .i64 x5], .nilIface]) := hE9
    have hb9' := hb8'.trans (hb9.mono hb8'.size)
    have hbA : Below w9.heap.size w9 (w9.alloc (.cells #[.int .i64 x0, .int .i64 x1, .int .i64 x2, .int .i64 x3, .int .i64 x4, .int .i64 x5] 33)) := (Below.refl _ _).alloc (Nat.le_refl _) _
    have hbA' := hb9'.trans (hbA.mono hb9'.size)
    obtain ⟨f0, f1, f2, f3, f4, f5⟩ := (HY8.out.below hb9).below hbA
    simp only at f0 f1 f2 f3 f4 f5
    clear HP2 hb9 hbA hb8
    -- the text's event
    have HP3 := Lib.hid (parse_event s _ (HT.out.below hbA') (by omega) (Nat.le_trans HG.out hbA'.size))
    go_wp2_with fail
    refine HP3.out.mono ?_
    rintro e w11 ⟨hE11, hb11⟩
    have hb11' := hbA'.trans (hb11.mono hbA'.size)
    clear HP3
    (try clear f0 f1 f2 f3 f4 f5)
    cases hpe : evP s.data.toList with
    | none =>
      rw [hpe] at hE11
      obtain rfl : e = .returned (.tuple #[.agg #[.int .i64 0, .int .i64 0, .int .i64 0, .int .i64 0, .int .i64 0, .int .i64 0, .int .i64 0], .iface 70 (.int .i64 5)]) := hE11
      have hb12 := hb11'.alloc hb11'.size (.cells #[.int .i64 0, .int .i64 0, .int .i64 0, .int .i64 0, .int .i64 0, .int .i64 0, .int .i64 0] 44)
      clear hpe
      -- the text's entry; wp: the world behind the event's part
      have HP4 := Lib.hid (parse_entry s _ (HT.out.below hb12) (by omega) (Nat.le_trans HG.out hb12.size))
      go_wp2_with fail
      refine HP4.out.mono ?_
      rintro e w14 ⟨hE14, hb14⟩
      have hb14' := hb12.trans (hb14.mono hb12.size)
      clear HP4
      cases hpn : entP s.data.toList with
      | none =>
        rw [hpn] at hE14
        obtain rfl : e = .returned (.tuple #[.agg #[.int .i64 0, .int .i64 0, .int .i64 0, .int .i64 0, .int .i64 0, .int .i64 0], .iface 70 (.int .i64 5)]) := hE14
        have hb15 := hb14'.alloc hb14'.size (.cells #[.int .i64 0, .int .i64 0, .int .i64 0, .int .i64 0, .int .i64 0, .int .i64 0] 33)
        clear hpn
        go_wp2
        go_ret
        exact ⟨rfl, HB0.out.trans (hb15.mono HB0.out.size)⟩
      | some z =>
        rw [hpn] at hE14
        have hzz := entP_iff.1 hpn
        have HZE := Lib.hid (entry_ok z hzz.1)
        rw [hzz.2, bsA_of] at HZE
        obtain ⟨z0, z1, z2, z3, z4, z5⟩ := z
        obtain rfl : e = .returned (.tuple #[.agg #[.int .i64 z0, .int .i64 z1, .int .i64 z2, .int .i64 z3, .int .i64 z4, .int .i64 z5], .nilIface]) := hE14
        have hb15 : Below w14.heap.size w14 (w14.alloc (.cells #[.int .i64 z0, .int .i64 z1, .int .i64 z2, .int .i64 z3, .int .i64 z4, .int .i64 z5] 33)) := (Below.refl _ _).alloc (Nat.le_refl _) _
        have hb15' := hb14'.trans (hb15.mono hb14'.size)
        unfold entA at HZE
        simp only at HZE
        clear hpn hzz
        go_wp2_with fail
        refine (HZE.out _ (HT.out.below hb15')).mono ?_
        rintro e w16 ⟨rfl, hb16⟩
        have hb16' := hb15'.trans (hb16.mono hb15'.size)
        clear HZE hb15
        go_wp2
        go_ret
        exact ⟨rfl, HB0.out.trans (hb16'.mono HB0.out.size)⟩
    | some v =>
      rw [hpe] at hE11
      have hvv := evP_iff.1 hpe
      have HVE := Lib.hid (event_ok v hvv.1)
      rw [hvv.2, bsA_of] at HVE
      have HNO := Lib.hid (show ∀ z : Ent, z.may = true ∧ entT z = s.data.toList → False from fun z hz => ev_ent hvv.1 hz.1 (hvv.2.trans hz.2.symm))
      obtain ⟨v0, v1, v2, v3, v4, v5, v6⟩ := v
      obtain rfl : e = .returned (.tuple #[.agg #[.int .i64 v0, .int .i64 v1, .int .i64 v2, .int .i64 v3, .int .i64 v4, .int .i64 v5, .int .i64 v6], .nilIface]) := hE11
      have hb12 : Below w11.heap.size w11 (w11.alloc (.cells #[.int .i64 v0, .int .i64 v1, .int .i64 v2, .int .i64 v3, .int .i64 v4, .int .i64 v5, .int .i64 v6] 44)) := (Below.refl _ _).alloc (Nat.le_refl _) _
      have hb12' := hb11'.trans (hb12.mono hb11'.size)
      unfold evC at HVE
      simp only at HVE
      clear hpe hvv hb12
      go_wp2_with fail
      refine (HVE.out _ (HT.out.below hb12')).mono ?_
      rintro e w13 ⟨rfl, hb13⟩
      have hb13' := hb12'.trans (hb13.mono hb12'.size)
      clear HVE hb13 hb12' hb11'
      -- the text's entry; wp: the world behind the event's part
      have HP4 := Lib.hid (parse_entry s _ (HT.out.below hb13') (by omega) (Nat.le_trans HG.out hb13'.size))
      go_wp2_with fail
      refine HP4.out.mono ?_
      rintro e w14 ⟨hE14, hb14⟩
      have hb14' := hb13'.trans (hb14.mono hb13'.size)
      clear HP4
      cases hpn : entP s.data.toList with
      | none =>
        rw [hpn] at hE14
        obtain rfl : e = .returned (.tuple #[.agg #[.int .i64 0, .int .i64 0, .int .i64 0, .int .i64 0, .int .i64 0, .int .i64 0], .iface 70 (.int .i64 5)]) := hE14
        have hb15 := hb14'.alloc hb14'.size (.cells #[.int .i64 0, .int .i64 0, .int .i64 0, .int .i64 0, .int .i64 0, .int .i64 0] 33)
        clear hpn
        go_wp2
        go_ret
        exact ⟨rfl, HB0.out.trans (hb15.mono HB0.out.size)⟩
      | some z => exact (HNO.out z (entP_iff.1 hpn)).elim
set_option maxRecDepth 100000 in
set_option maxHeartbeats 8000000 in
theorem textback_true (a : Ev) (x : Ent) (s : ByteArray) (w : World) (hT : TxW w) (hG : 9 ≤ w.heap.size) (hs : s.size < 4294967281) (hoa : evOk a = true) :
    Calls Tryz.prog 6 #[.agg (evC a), .agg (entA x), .string s] w fun e w' => e = .returned (.bool true) ∧ Below w.heap.size w w' := by
  obtain ⟨ox, hox⟩ : ∃ o, x.may = o := ⟨_, rfl⟩
  have hva0 : errV (evE a) = (if true = true then .nilIface else .iface 70 (.int .i64 (evE a))) := errV_of (by rw [evE_iff, hoa])
  have HVx := Lib.hid (errV_of (k := entE x) (o := ox) (by rw [← entE_iff, hox]))
  have HPx := Lib.hid (show ox = true → entP (bsA (entS x)).data.toList = some x from fun h => by
    subst h
    rw [bsA_list, show entS x = entT x from if_pos hox]; exact entP_iff.2 ⟨hox, rfl⟩)
  have HLx := Lib.hid (show (bsA (entS x)).size ≤ 1000 from by rw [bs_size]; exact entS_len x)
  have HPa := Lib.hid (show true = true → evP (bsA (evS a)).data.toList = some a from fun h => by
    have hok : evOk a = true := hoa.trans h
    rw [bsA_list, show evS a = evT a from if_pos hok]; exact evP_iff.2 ⟨hok, rfl⟩)
  have HLa := Lib.hid (show (bsA (evS a)).size ≤ 1000 from by rw [bs_size]; exact evS_len a)
  have HCa := Lib.hid (fun W (h : TxW W) => event_any a W h)
  have HCx := Lib.hid (fun W (h : TxW W) => entry_any x W h)
  clear hoa hox
  generalize hXa : bsA (evS a) = Xa at *
  generalize hXx : bsA (entS x) = Xx at *
  generalize evE a = ka at *
  generalize hva : errV ka = va at *
  generalize hvx : errV (entE x) = vx at *
  clear hXa hXx hva hvx
  generalize entE x = kx at *
  obtain rfl : va = .nilIface := hva0
  obtain ⟨a0, a1, a2, a3, a4, a5, a6⟩ := a
  obtain ⟨x0, x1, x2, x3, x4, x5⟩ := x
  have ha := is7_new w ⟨a0, a1, a2, a3, a4, a5, a6⟩ 44
  have hb1 : Below w.heap.size w (w.alloc (.cells (evC ⟨a0, a1, a2, a3, a4, a5, a6⟩) 44)) := (Below.refl _ _).alloc (Nat.le_refl _) _
  obtain ⟨u1, hu1⟩ : ∃ X, w.alloc (.cells (evC ⟨a0, a1, a2, a3, a4, a5, a6⟩) 44) = X := ⟨_, rfl⟩
  have hs1 : u1.heap.size = w.heap.size + 1 := by rw [← hu1]; simp
  rw [hu1] at ha hb1
  have hx := is6_new u1 ⟨x0, x1, x2, x3, x4, x5⟩ 25
  have hb2 : Below u1.heap.size u1 (u1.alloc (.cells (entA ⟨x0, x1, x2, x3, x4, x5⟩) 25)) := (Below.refl _ _).alloc (Nat.le_refl _) _
  obtain ⟨u2, hu2⟩ : ∃ X, u1.alloc (.cells (entA ⟨x0, x1, x2, x3, x4, x5⟩) 25) = X := ⟨_, rfl⟩
  rw [hu2] at hx hb2
  have hb0 := hb1.trans (hb2.mono hb1.size)
  have HIa := Lib.hid (ha.below hb2)
  have HIx := Lib.hid hx
  rw [hs1] at HIx
  have HW4 := Lib.hid (show (w.alloc (.cells (evC ⟨a0, a1, a2, a3, a4, a5, a6⟩) 44)).alloc (.cells (entA ⟨x0, x1, x2, x3, x4, x5⟩) 25) = u2 from by rw [hu1, hu2])
  have HT := Lib.hid (hT.below hb0)
  have HG := Lib.hid (Nat.le_trans hG hb0.size)
  have HA := Lib.hid (alive_true u2 (hT.below hb0) (Nat.le_trans hG hb0.size))
  have HB0 := Lib.hid hb0
  unfold evC at HCa HW4 ⊢
  unfold entA at HCx HW4 ⊢
  simp only at HCa HCx HW4 ⊢
  clear hu1 hu2 hs1 ha hx hb1 hb2 hb0 hT hG
  go_enter Tryz.func6, Tryz.ntmps6
  go_wp2_with fail
  rw [HW4.out]
  refine HA.out.mono ?_
  rintro e w1 ⟨rfl, hb1⟩
  clear HA HW4
  obtain ⟨f0, f1, f2, f3, f4, f5, f6⟩ := HIa.out.below hb1
  simp only at f0 f1 f2 f3 f4 f5 f6
  go_wp2_with fail
  refine (HCa.out _ (HT.out.below hb1)).mono ?_
  rintro e w2 ⟨rfl, hb2⟩
  have hb2' := hb1.trans (hb2.mono hb1.size)
  clear f0 f1 f2 f3 f4 f5 f6 hb1 hb2
  have HP1 := Lib.hid (parse_event Xa w2 (HT.out.below hb2') (by have := HLa.out; omega) (Nat.le_trans HG.out hb2'.size))
  rw [HPa.out (by simp)] at HP1
  go_wp2_with fail
  refine HP1.out.mono ?_
  rintro e w4 ⟨hE4, hb4⟩
  obtain rfl : e = .returned (.tuple #[.agg #[.int .i64 a0, .int .i64 a1, .int .i64 a2, .int .i64 a3, .int .i64 a4, .int .i64 a5, .int .i64 a6], .nilIface]) := hE4
  have hb4' := hb2'.trans (hb4.mono hb2'.size)
  have hb5 : Below w4.heap.size w4 (w4.alloc (.cells #[.int .i64 a0, .int .i64 a1, .int .i64 a2, .int .i64 a3, .int .i64 a4, .int .i64 a5, .int .i64 a6] 44)) := (Below.refl _ _).alloc (Nat.le_refl _) _
  have hb5' := hb4'.trans (hb5.mono hb4'.size)
  obtain ⟨f0, f1, f2, f3, f4, f5, f6⟩ := HIa.out.below hb5'
  simp only at f0 f1 f2 f3 f4 f5 f6
  clear HP1 hb4 hb5
  obtain ⟨g0, g1, g2, g3, g4, g5⟩ := HIx.out.below hb5'
  simp only at g0 g1 g2 g3 g4 g5
  go_wp2_with fail
  clear f0 f1 f2 f3 f4 f5 f6 g0 g1 g2 g3 g4 g5
  -- the entry: its text is read again
  refine (of_any x0 x1 x2 x3 x4 x5 _).mono ?_
  rintro e w6 ⟨rfl, hb6⟩
  have hb6' := hb5'.trans (hb6.mono hb5'.size)
  have hb7 : Below w6.heap.size w6 (w6.alloc (.cells #[.int .i64 x0, .int .i64 x1, .int .i64 x2, .int .i64 x3, .int .i64 x4, .int .i64 x5] 33)) := (Below.refl _ _).alloc (Nat.le_refl _) _
  have hb7' := hb6'.trans (hb7.mono hb6'.size)
  have HY := Lib.hid (is6_new w6 ⟨x0, x1, x2, x3, x4, x5⟩ 33)
  unfold entA at HY
  simp only at HY
  clear hb6 hb7
  go_wp2_with fail
  refine (HCx.out _ (HT.out.below hb7')).mono ?_
  rintro e w8 ⟨rfl, hb8⟩
  have hb8' := hb7'.trans (hb8.mono hb7'.size)
  have HY8 := Lib.hid (HY.out.below hb8)
  clear HY
  cases ox
  · obtain rfl : vx = .iface 70 (.int .i64 kx) := HVx.out
    clear hb8 HY8
    -- the text's event
    have HP3 := Lib.hid (parse_event s _ (HT.out.below hb8') (by omega) (Nat.le_trans HG.out hb8'.size))
    go_wp2_with fail
    refine HP3.out.mono ?_
    rintro e w11 ⟨hE11, hb11⟩
    have hb11' := hb8'.trans (hb11.mono hb8'.size)
    clear HP3
    (try clear zzz)
    cases hpe : evP s.data.toList with
    | none =>
      rw [hpe] at hE11
      obtain rfl : e = .returned (.tuple #[.agg #[.int .i64 0, .int .i64 0, .int .i64 0, .int .i64 0, .int .i64 0, .int .i64 0, .int .i64 0], .iface 70 (.int .i64 5)]) := hE11
      have hb12 := hb11'.alloc hb11'.size (.cells #[.int .i64 0, .int .i64 0, .int .i64 0, .int .i64 0, .int .i64 0, .int .i64 0, .int .i64 0] 44)
      clear hpe
      -- the text's entry; wp: the world behind the event's part
      have HP4 := Lib.hid (parse_entry s _ (HT.out.below hb12) (by omega) (Nat.le_trans HG.out hb12.size))
      go_wp2_with fail
      refine HP4.out.mono ?_
      rintro e w14 ⟨hE14, hb14⟩
      have hb14' := hb12.trans (hb14.mono hb12.size)
      clear HP4
      cases hpn : entP s.data.toList with
      | none =>
        rw [hpn] at hE14
        obtain rfl : e = .returned (.tuple #[.agg #[.int .i64 0, .int .i64 0, .int .i64 0, .int .i64 0, .int .i64 0, .int .i64 0], .iface 70 (.int .i64 5)]) := hE14
        have hb15 := hb14'.alloc hb14'.size (.cells #[.int .i64 0, .int .i64 0, .int .i64 0, .int .i64 0, .int .i64 0, .int .i64 0] 33)
        clear hpn
        go_wp2
        go_ret
        exact ⟨rfl, HB0.out.trans (hb15.mono HB0.out.size)⟩
      | some z =>
        rw [hpn] at hE14
        have hzz := entP_iff.1 hpn
        have HZE := Lib.hid (entry_ok z hzz.1)
        rw [hzz.2, bsA_of] at HZE
        obtain ⟨z0, z1, z2, z3, z4, z5⟩ := z
        obtain rfl : e = .returned (.tuple #[.agg #[.int .i64 z0, .int .i64 z1, .int .i64 z2, .int .i64 z3, .int .i64 z4, .int .i64 z5], .nilIface]) := hE14
        have hb15 : Below w14.heap.size w14 (w14.alloc (.cells #[.int .i64 z0, .int .i64 z1, .int .i64 z2, .int .i64 z3, .int .i64 z4, .int .i64 z5] 33)) := (Below.refl _ _).alloc (Nat.le_refl _) _
        have hb15' := hb14'.trans (hb15.mono hb14'.size)
        unfold entA at HZE
        simp only at HZE
        clear hpn hzz
        go_wp2_with fail
        refine (HZE.out _ (HT.out.below hb15')).mono ?_
        rintro e w16 ⟨rfl, hb16⟩
        have hb16' := hb15'.trans (hb16.mono hb15'.size)
        clear HZE hb15
        go_wp2
        go_ret
        exact ⟨rfl, HB0.out.trans (hb16'.mono HB0.out.size)⟩
    | some v =>
      rw [hpe] at hE11
      have hvv := evP_iff.1 hpe
      have HVE := Lib.hid (event_ok v hvv.1)
      rw [hvv.2, bsA_of] at HVE
      have HNO := Lib.hid (show ∀ z : Ent, z.may = true ∧ entT z = s.data.toList → False from fun z hz => ev_ent hvv.1 hz.1 (hvv.2.trans hz.2.symm))
      obtain ⟨v0, v1, v2, v3, v4, v5, v6⟩ := v
      obtain rfl : e = .returned (.tuple #[.agg #[.int .i64 v0, .int .i64 v1, .int .i64 v2, .int .i64 v3, .int .i64 v4, .int .i64 v5, .int .i64 v6], .nilIface]) := hE11
      have hb12 : Below w11.heap.size w11 (w11.alloc (.cells #[.int .i64 v0, .int .i64 v1, .int .i64 v2, .int .i64 v3, .int .i64 v4, .int .i64 v5, .int .i64 v6] 44)) := (Below.refl _ _).alloc (Nat.le_refl _) _
      have hb12' := hb11'.trans (hb12.mono hb11'.size)
      unfold evC at HVE
      simp only at HVE
      clear hpe hvv hb12
      go_wp2_with fail
      refine (HVE.out _ (HT.out.below hb12')).mono ?_
      rintro e w13 ⟨rfl, hb13⟩
      have hb13' := hb12'.trans (hb13.mono hb12'.size)
      clear HVE hb13 hb12' hb11'
      -- the text's entry; wp: the world behind the event's part
      have HP4 := Lib.hid (parse_entry s _ (HT.out.below hb13') (by omega) (Nat.le_trans HG.out hb13'.size))
      go_wp2_with fail
      refine HP4.out.mono ?_
      rintro e w14 ⟨hE14, hb14⟩
      have hb14' := hb13'.trans (hb14.mono hb13'.size)
      clear HP4
      cases hpn : entP s.data.toList with
      | none =>
        rw [hpn] at hE14
        obtain rfl : e = .returned (.tuple #[.agg #[.int .i64 0, .int .i64 0, .int .i64 0, .int .i64 0, .int .i64 0, .int .i64 0], .iface 70 (.int .i64 5)]) := hE14
        have hb15 := hb14'.alloc hb14'.size (.cells #[.int .i64 0, .int .i64 0, .int .i64 0, .int .i64 0, .int .i64 0, .int .i64 0] 33)
        clear hpn
        go_wp2
        go_ret
        exact ⟨rfl, HB0.out.trans (hb15.mono HB0.out.size)⟩
      | some z => exact (HNO.out z (entP_iff.1 hpn)).elim
  · obtain rfl : vx = .nilIface := HVx.out
    have HP2 := Lib.hid (parse_entry Xx w8 (HT.out.below hb8') (by have := HLx.out; omega) (Nat.le_trans HG.out hb8'.size))
    rw [HPx.out rfl] at HP2
    go_wp2_with fail
    refine HP2.out.mono ?_
    rintro e w9 ⟨hE9, hb9⟩
    obtain rfl : e = .returned (.tuple #[.agg #[.int .i64 x0, .int .i64 x1, .int .i64 x2, .int .i64 x3, .int .i64 x4, .int .i64 x5], .nilIface]) := hE9
    have hb9' := hb8'.trans (hb9.mono hb8'.size)
    have hbA : Below w9.heap.size w9 (w9.alloc (.cells #[.int .i64 x0, .int .i64 x1, .int .i64 x2, .int .i64 x3, .int .i64 x4, .int .i64 x5] 33)) := (Below.refl _ _).alloc (Nat.le_refl _) _
    have hbA' := hb9'.trans (hbA.mono hb9'.size)
    obtain ⟨f0, f1, f2, f3, f4, f5⟩ := (HY8.out.below hb9).below hbA
    simp only at f0 f1 f2 f3 f4 f5
    clear HP2 hb9 hbA hb8
    -- the text's event
    have HP3 := Lib.hid (parse_event s _ (HT.out.below hbA') (by omega) (Nat.le_trans HG.out hbA'.size))
    go_wp2_with fail
    refine HP3.out.mono ?_
    rintro e w11 ⟨hE11, hb11⟩
    have hb11' := hbA'.trans (hb11.mono hbA'.size)
    clear HP3
    (try clear f0 f1 f2 f3 f4 f5)
    cases hpe : evP s.data.toList with
    | none =>
      rw [hpe] at hE11
      obtain rfl : e = .returned (.tuple #[.agg #[.int .i64 0, .int .i64 0, .int .i64 0, .int .i64 0, .int .i64 0, .int .i64 0, .int .i64 0], .iface 70 (.int .i64 5)]) := hE11
      have hb12 := hb11'.alloc hb11'.size (.cells #[.int .i64 0, .int .i64 0, .int .i64 0, .int .i64 0, .int .i64 0, .int .i64 0, .int .i64 0] 44)
      clear hpe
      -- the text's entry; wp: the world behind the event's part
      have HP4 := Lib.hid (parse_entry s _ (HT.out.below hb12) (by omega) (Nat.le_trans HG.out hb12.size))
      go_wp2_with fail
      refine HP4.out.mono ?_
      rintro e w14 ⟨hE14, hb14⟩
      have hb14' := hb12.trans (hb14.mono hb12.size)
      clear HP4
      cases hpn : entP s.data.toList with
      | none =>
        rw [hpn] at hE14
        obtain rfl : e = .returned (.tuple #[.agg #[.int .i64 0, .int .i64 0, .int .i64 0, .int .i64 0, .int .i64 0, .int .i64 0], .iface 70 (.int .i64 5)]) := hE14
        have hb15 := hb14'.alloc hb14'.size (.cells #[.int .i64 0, .int .i64 0, .int .i64 0, .int .i64 0, .int .i64 0, .int .i64 0] 33)
        clear hpn
        go_wp2
        go_ret
        exact ⟨rfl, HB0.out.trans (hb15.mono HB0.out.size)⟩
      | some z =>
        rw [hpn] at hE14
        have hzz := entP_iff.1 hpn
        have HZE := Lib.hid (entry_ok z hzz.1)
        rw [hzz.2, bsA_of] at HZE
        obtain ⟨z0, z1, z2, z3, z4, z5⟩ := z
        obtain rfl : e = .returned (.tuple #[.agg #[.int .i64 z0, .int .i64 z1, .int .i64 z2, .int .i64 z3, .int .i64 z4, .int .i64 z5], .nilIface]) := hE14
        have hb15 : Below w14.heap.size w14 (w14.alloc (.cells #[.int .i64 z0, .int .i64 z1, .int .i64 z2, .int .i64 z3, .int .i64 z4, .int .i64 z5] 33)) := (Below.refl _ _).alloc (Nat.le_refl _) _
        have hb15' := hb14'.trans (hb15.mono hb14'.size)
        unfold entA at HZE
        simp only at HZE
        clear hpn hzz
        go_wp2_with fail
        refine (HZE.out _ (HT.out.below hb15')).mono ?_
        rintro e w16 ⟨rfl, hb16⟩
        have hb16' := hb15'.trans (hb16.mono hb15'.size)
        clear HZE hb15
        go_wp2
        go_ret
        exact ⟨rfl, HB0.out.trans (hb16'.mono HB0.out.size)⟩
    | some v =>
      rw [hpe] at hE11
      have hvv := evP_iff.1 hpe
      have HVE := Lib.hid (event_ok v hvv.1)
      rw [hvv.2, bsA_of] at HVE
      have HNO := Lib.hid (show ∀ z : Ent, z.may = true ∧ entT z = s.data.toList → False from fun z hz => ev_ent hvv.1 hz.1 (hvv.2.trans hz.2.symm))
      obtain ⟨v0, v1, v2, v3, v4, v5, v6⟩ := v
      obtain rfl : e = .returned (.tuple #[.agg #[.int .i64 v0, .int .i64 v1, .int .i64 v2, .int .i64 v3, .int .i64 v4, .int .i64 v5, .int .i64 v6], .nilIface]) := hE11
      have hb12 : Below w11.heap.size w11 (w11.alloc (.cells #[.int .i64 v0, .int .i64 v1, .int .i64 v2, .int .i64 v3, .int .i64 v4, .int .i64 v5, .int .i64 v6] 44)) := (Below.refl _ _).alloc (Nat.le_refl _) _
      have hb12' := hb11'.trans (hb12.mono hb11'.size)
      unfold evC at HVE
      simp only at HVE
      clear hpe hvv hb12
      go_wp2_with fail
      refine (HVE.out _ (HT.out.below hb12')).mono ?_
      rintro e w13 ⟨rfl, hb13⟩
      have hb13' := hb12'.trans (hb13.mono hb12'.size)
      clear HVE hb13 hb12' hb11'
      -- the text's entry; wp: the world behind the event's part
      have HP4 := Lib.hid (parse_entry s _ (HT.out.below hb13') (by omega) (Nat.le_trans HG.out hb13'.size))
      go_wp2_with fail
      refine HP4.out.mono ?_
      rintro e w14 ⟨hE14, hb14⟩
      have hb14' := hb13'.trans (hb14.mono hb13'.size)
      clear HP4
      cases hpn : entP s.data.toList with
      | none =>
        rw [hpn] at hE14
        obtain rfl : e = .returned (.tuple #[.agg #[.int .i64 0, .int .i64 0, .int .i64 0, .int .i64 0, .int .i64 0, .int .i64 0], .iface 70 (.int .i64 5)]) := hE14
        have hb15 := hb14'.alloc hb14'.size (.cells #[.int .i64 0, .int .i64 0, .int .i64 0, .int .i64 0, .int .i64 0, .int .i64 0] 33)
        clear hpn
        go_wp2
        go_ret
        exact ⟨rfl, HB0.out.trans (hb15.mono HB0.out.size)⟩
      | some z => exact (HNO.out z (entP_iff.1 hpn)).elim
theorem textback_true' (a : Ev) (x : Ent) (s : ByteArray) (w : World) (hT : TxW w) (hG : 9 ≤ w.heap.size) (hs : s.size < 4294967281) :
    Calls Tryz.prog 6 #[.agg (evC a), .agg (entA x), .string s] w fun e w' => e = .returned (.bool true) ∧ Below w.heap.size w w' := by
  cases h : evOk a
  · exact textback_false a x s w hT hG hs h
  · exact textback_true a x s w hT hG hs h
end Go.Proofs.YtjpjlfjaapfnkaaGreatDoor

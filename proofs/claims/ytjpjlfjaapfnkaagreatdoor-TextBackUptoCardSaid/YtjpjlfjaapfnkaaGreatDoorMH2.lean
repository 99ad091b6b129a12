/-
  TextApart. No conditions beyond those that each theorem states.
-/
import Derived.Test.YtjpjlfjaapfnkaaGreatDoorMO
import Derived.Test.YtjpjlfjaapfnkaaGreatDoorMS
namespace Go.Proofs.YtjpjlfjaapfnkaaGreatDoor
open Go.ChangeShapes Go.WideShapes Go.ChangeAt Go.RowKit
open C20 (Ev formB evC)
set_option linter.unusedVariables false
set_option linter.unusedSimpArgs false
theorem errV_of {k : Int} {o : Bool} (h : o = true ↔ k = 0) : errV k = (if o = true then .nilIface else .iface 70 (.int .i64 k)) := by
  unfold errV
  by_cases hk : k = 0
  · rw [if_pos hk, if_pos (h.2 hk)]
  · rw [if_neg hk, if_neg (fun q => hk (h.1 q))]
theorem str_eq {A B : List UInt8} {D : Bool} (h : D = true ↔ A = B) : ((bsA A).toList == (bsA B).toList) = D := by
  rw [bs_list, bs_list]
  cases D <;> simp_all
theorem isBl (p : Prop) : ∃ D : Bool, D = true ↔ p := by
  by_cases h : p
  · exact ⟨true, by simp [h]⟩
  · exact ⟨false, by simp [h]⟩
theorem entE_iff (e : Ent) : e.may = true ↔ entE e = 0 := by
  unfold entE
  cases e.may <;> simp
set_option maxRecDepth 100000 in
set_option maxHeartbeats 4000000 in
theorem textapart_true (a b : Ev) (x y : Ent) (w : World) (hT : TxW w) (hG : 9 ≤ w.heap.size) :
    Calls Tryz.prog 4 #[.agg (evC a), .agg (evC b), .agg (entA x), .agg (entA y)] w fun e w' => e = .returned (.bool true) ∧ Below w.heap.size w w' := by
  obtain ⟨D, hD⟩ := isBl (a = b)
  obtain ⟨DX, hDX⟩ := isBl (x = y)
  obtain ⟨oa, hoa⟩ : ∃ o, evOk a = o := ⟨_, rfl⟩
  obtain ⟨ob, hob⟩ : ∃ o, evOk b = o := ⟨_, rfl⟩
  obtain ⟨ox, hox⟩ : ∃ o, x.may = o := ⟨_, rfl⟩
  obtain ⟨oy, hoy⟩ : ∃ o, y.may = o := ⟨_, rfl⟩
  have HVa := Lib.hid (errV_of (k := evE a) (o := oa) (by rw [evE_iff, hoa]))
  have HVb := Lib.hid (errV_of (k := evE b) (o := ob) (by rw [evE_iff, hob]))
  have HVx := Lib.hid (errV_of (k := entE x) (o := ox) (by rw [← entE_iff, hox]))
  have HVy := Lib.hid (errV_of (k := entE y) (o := oy) (by rw [← entE_iff, hoy]))
  have HST := Lib.hid (show oa = true → ob = true → ((bsA (evS a)).toList == (bsA (evS b)).toList) = D from fun h1 h2 => by
    subst h1; subst h2
    rw [show evS a = evT a from if_pos hoa, show evS b = evT b from if_pos hob]
    exact str_eq ⟨fun h => by rw [hD.1 h], fun h => hD.2 (evT_inj hoa hob h)⟩)
  have HSV := Lib.hid (show ox = true → oy = true → ((bsA (entS x)).toList == (bsA (entS y)).toList) = DX from fun h1 h2 => by
    subst h1; subst h2
    rw [show entS x = entT x from if_pos hox, show entS y = entT y from if_pos hoy]
    exact str_eq ⟨fun h => by rw [hDX.1 h], fun h => hDX.2 (entT_inj hox hoy h)⟩)
  have HSU := Lib.hid (show oa = true → ox = true → ((bsA (evS a)).toList == (bsA (entS x)).toList) = false from fun h1 h2 => by
    subst h1; subst h2
    rw [show evS a = evT a from if_pos hoa, show entS x = entT x from if_pos hox]
    exact str_eq ⟨fun h => by simp at h, fun h => absurd h (ev_ent hoa hox)⟩)
  have HQ := Lib.hid (fun W => ev_eq hD W)
  have HQX := Lib.hid (fun W => ren_eq hDX W)
  have HCa := Lib.hid (fun W (h : TxW W) => event_any a W h)
  have HCb := Lib.hid (fun W (h : TxW W) => event_any b W h)
  have HCx := Lib.hid (fun W (h : TxW W) => entry_any x W h)
  have HCy := Lib.hid (fun W (h : TxW W) => entry_any y W h)
  clear hoa hob hox hoy hD hDX
  generalize hXa : bsA (evS a) = Xa at *
  generalize hXb : bsA (evS b) = Xb at *
  generalize hXx : bsA (entS x) = Xx at *
  generalize hXy : bsA (entS y) = Xy at *
  generalize hva : errV (evE a) = va at *
  generalize hvb : errV (evE b) = vb at *
  generalize hvx : errV (entE x) = vx at *
  generalize hvy : errV (entE y) = vy at *
  clear hXa hXb hXx hXy hva hvb hvx hvy
  generalize evE a = ka at *
  generalize evE b = kb at *
  generalize entE x = kx at *
  generalize entE y = ky at *
  obtain ⟨a0, a1, a2, a3, a4, a5, a6⟩ := a
  obtain ⟨b0, b1, b2, b3, b4, b5, b6⟩ := b
  obtain ⟨x0, x1, x2, x3, x4, x5⟩ := x
  obtain ⟨y0, y1, y2, y3, y4, y5⟩ := y
  have ha := is7_new w ⟨a0, a1, a2, a3, a4, a5, a6⟩ 44
  have hb1 : Below w.heap.size w (w.alloc (.cells (evC ⟨a0, a1, a2, a3, a4, a5, a6⟩) 44)) := (Below.refl _ _).alloc (Nat.le_refl _) _
  obtain ⟨u1, hu1⟩ : ∃ X, w.alloc (.cells (evC ⟨a0, a1, a2, a3, a4, a5, a6⟩) 44) = X := ⟨_, rfl⟩
  have hs1 : u1.heap.size = w.heap.size + 1 := by rw [← hu1]; simp
  rw [hu1] at ha hb1
  have hb' := is7_new u1 ⟨b0, b1, b2, b3, b4, b5, b6⟩ 44
  have hb2 : Below u1.heap.size u1 (u1.alloc (.cells (evC ⟨b0, b1, b2, b3, b4, b5, b6⟩) 44)) := (Below.refl _ _).alloc (Nat.le_refl _) _
  obtain ⟨u2, hu2⟩ : ∃ X, u1.alloc (.cells (evC ⟨b0, b1, b2, b3, b4, b5, b6⟩) 44) = X := ⟨_, rfl⟩
  have hs2 : u2.heap.size = w.heap.size + 1 + 1 := by rw [← hu2, ← hs1]; simp
  rw [hu2] at hb' hb2
  have hx := is6_new u2 ⟨x0, x1, x2, x3, x4, x5⟩ 25
  have hb3 : Below u2.heap.size u2 (u2.alloc (.cells (entA ⟨x0, x1, x2, x3, x4, x5⟩) 25)) := (Below.refl _ _).alloc (Nat.le_refl _) _
  obtain ⟨u3, hu3⟩ : ∃ X, u2.alloc (.cells (entA ⟨x0, x1, x2, x3, x4, x5⟩) 25) = X := ⟨_, rfl⟩
  have hs3 : u3.heap.size = w.heap.size + 1 + 1 + 1 := by rw [← hu3, ← hs2]; simp
  rw [hu3] at hx hb3
  have hy := is6_new u3 ⟨y0, y1, y2, y3, y4, y5⟩ 25
  have hb4 : Below u3.heap.size u3 (u3.alloc (.cells (entA ⟨y0, y1, y2, y3, y4, y5⟩) 25)) := (Below.refl _ _).alloc (Nat.le_refl _) _
  obtain ⟨u4, hu4⟩ : ∃ X, u3.alloc (.cells (entA ⟨y0, y1, y2, y3, y4, y5⟩) 25) = X := ⟨_, rfl⟩
  rw [hu4] at hy hb4
  have hbx := ((hb1.trans (hb2.mono hb1.size)).trans (hb3.mono (hb1.trans (hb2.mono hb1.size)).size))
  have hb0 := hbx.trans (hb4.mono hbx.size)
  have HIa := Lib.hid (((ha.below hb2).below hb3).below hb4)
  have HIb := Lib.hid ((hb'.below hb3).below hb4)
  have HIx := Lib.hid (hx.below hb4)
  have HIy := Lib.hid hy
  rw [hs1] at HIb
  rw [hs2] at HIx
  rw [hs3] at HIy
  have HW4 := Lib.hid (show (((w.alloc (.cells (evC ⟨a0, a1, a2, a3, a4, a5, a6⟩) 44)).alloc (.cells (evC ⟨b0, b1, b2, b3, b4, b5, b6⟩) 44)).alloc (.cells (entA ⟨x0, x1, x2, x3, x4, x5⟩) 25)).alloc (.cells (entA ⟨y0, y1, y2, y3, y4, y5⟩) 25) = u4 from by rw [hu1, hu2, hu3, hu4])
  have HT := Lib.hid (hT.below hb0)
  have HA := Lib.hid (alive_true u4 (hT.below hb0) (Nat.le_trans hG hb0.size))
  have HB0 := Lib.hid hb0
  unfold evC at HCa HCb HQ HW4 ⊢
  unfold entA at HCx HCy HQX HW4 ⊢
  simp only at HCa HCb HCx HCy HQ HQX HW4 ⊢
  clear hu1 hu2 hu3 hu4 hs1 hs2 hs3 ha hb' hx hy hb1 hb2 hb3 hb4 hbx hb0 hT hG
  go_enter Tryz.func4, Tryz.ntmps4
  go_wp2_with fail
  rw [HW4.out]
  refine HA.out.mono ?_
  rintro e w1 ⟨rfl, hb1⟩
  clear HA HW4
  obtain ⟨f0, f1, f2, f3, f4, f5, f6⟩ := HIa.out.below hb1
  simp only at f0 f1 f2 f3 f4 f5 f6
  go_wp2_with fail
  refine (HCa.out _ (HT.out.below hb1)).mono ?_
  rintro e w2 ⟨rfl, hb2⟩
  have hb2' := hb1.trans (hb2.mono hb1.size)
  clear f0 f1 f2 f3 f4 f5 f6 hb1 hb2
  obtain ⟨f0, f1, f2, f3, f4, f5, f6⟩ := HIb.out.below hb2'
  simp only at f0 f1 f2 f3 f4 f5 f6
  go_wp2_with fail
  refine (HCb.out _ (HT.out.below hb2')).mono ?_
  rintro e w3 ⟨rfl, hb3⟩
  have hb3' := hb2'.trans (hb3.mono hb2'.size)
  clear f0 f1 f2 f3 f4 f5 f6 hb2' hb3
  obtain ⟨f0, f1, f2, f3, f4, f5⟩ := HIx.out.below hb3'
  simp only at f0 f1 f2 f3 f4 f5
  go_wp2_with fail
  refine (of_any x0 x1 x2 x3 x4 x5 _).mono ?_
  rintro e w4 ⟨rfl, hb4⟩
  have hb4' := hb3'.trans (hb4.mono hb3'.size)
  clear f0 f1 f2 f3 f4 f5 hb3' hb4
  go_wp2_with fail
  refine (HCx.out _ (HT.out.below hb4')).mono ?_
  rintro e w5 ⟨rfl, hb5⟩
  have hb5' := hb4'.trans (hb5.mono hb4'.size)
  clear hb4' hb5
  obtain ⟨f0, f1, f2, f3, f4, f5⟩ := HIy.out.below hb5'
  simp only at f0 f1 f2 f3 f4 f5
  go_wp2_with fail
  refine (of_any y0 y1 y2 y3 y4 y5 _).mono ?_
  rintro e w6 ⟨rfl, hb6⟩
  have hb6' := hb5'.trans (hb6.mono hb5'.size)
  clear f0 f1 f2 f3 f4 f5 hb5' hb6
  go_wp2_with fail
  refine (HCy.out _ (HT.out.below hb6')).mono ?_
  rintro e w7 ⟨rfl, hb7⟩
  have hb7' := hb6'.trans (hb7.mono hb6'.size)
  obtain ⟨p0, p1, p2, p3, p4, p5, p6⟩ := HIa.out.below hb7'
  obtain ⟨q0, q1, q2, q3, q4, q5, q6⟩ := HIb.out.below hb7'
  obtain ⟨r0, r1, r2, r3, r4, r5⟩ := HIx.out.below hb7'
  obtain ⟨s0, s1, s2, s3, s4, s5⟩ := HIy.out.below hb7'
  simp only at p0 p1 p2 p3 p4 p5 p6 q0 q1 q2 q3 q4 q5 q6 r0 r1 r2 r3 r4 r5 s0 s1 s2 s3 s4 s5
  have HB := Lib.hid (HB0.out.trans (hb7'.mono HB0.out.size))
  clear hb6' hb7 hb7' HCa HCb HCx HCy HIa HIb HIx HIy
  have hQ := HQ.out
  have hQX := HQX.out
  cases oa
  · obtain rfl : va = .iface 70 (.int .i64 ka) := HVa.out
    have hsu := HSU.out
    cases ox
    · obtain rfl : vx = .iface 70 (.int .i64 kx) := HVx.out
      clear hsu
      go_wp2
      go_ret
      exact ⟨rfl, HB.out⟩
    · obtain rfl : vx = .nilIface := HVx.out
      clear hsu
      cases oy
      · obtain rfl : vy = .iface 70 (.int .i64 ky) := HVy.out
        go_wp2
        go_ret
        exact ⟨rfl, HB.out⟩
      · obtain rfl : vy = .nilIface := HVy.out
        have hsv := HSV.out rfl rfl
        cases DX
        · skip
          go_wp2
          go_ret
          exact ⟨rfl, HB.out⟩
        · skip
          go_wp2
          go_ret
          exact ⟨rfl, HB.out⟩
  · obtain rfl : va = .nilIface := HVa.out
    cases ob
    · obtain rfl : vb = .iface 70 (.int .i64 kb) := HVb.out
      have hsu := HSU.out
      cases ox
      · obtain rfl : vx = .iface 70 (.int .i64 kx) := HVx.out
        clear hsu
        go_wp2
        go_ret
        exact ⟨rfl, HB.out⟩
      · obtain rfl : vx = .nilIface := HVx.out
        replace hsu := hsu rfl rfl
        cases oy
        · obtain rfl : vy = .iface 70 (.int .i64 ky) := HVy.out
          go_wp2
          go_ret
          exact ⟨rfl, HB.out⟩
        · obtain rfl : vy = .nilIface := HVy.out
          have hsv := HSV.out rfl rfl
          cases DX
          · skip
            go_wp2
            go_ret
            exact ⟨rfl, HB.out⟩
          · skip
            go_wp2
            go_ret
            exact ⟨rfl, HB.out⟩
    · obtain rfl : vb = .nilIface := HVb.out
      have hst := HST.out rfl rfl
      cases D
      · skip
        have hsu := HSU.out
        cases ox
        · obtain rfl : vx = .iface 70 (.int .i64 kx) := HVx.out
          clear hsu
          go_wp2
          go_ret
          exact ⟨rfl, HB.out⟩
        · obtain rfl : vx = .nilIface := HVx.out
          replace hsu := hsu rfl rfl
          cases oy
          · obtain rfl : vy = .iface 70 (.int .i64 ky) := HVy.out
            go_wp2
            go_ret
            exact ⟨rfl, HB.out⟩
          · obtain rfl : vy = .nilIface := HVy.out
            have hsv := HSV.out rfl rfl
            cases DX
            · skip
              go_wp2
              go_ret
              exact ⟨rfl, HB.out⟩
            · skip
              go_wp2
              go_ret
              exact ⟨rfl, HB.out⟩
      · skip
        have hsu := HSU.out
        cases ox
        · obtain rfl : vx = .iface 70 (.int .i64 kx) := HVx.out
          clear hsu
          go_wp2
          go_ret
          exact ⟨rfl, HB.out⟩
        · obtain rfl : vx = .nilIface := HVx.out
          replace hsu := hsu rfl rfl
          cases oy
          · obtain rfl : vy = .iface 70 (.int .i64 ky) := HVy.out
            go_wp2
            go_ret
            exact ⟨rfl, HB.out⟩
          · obtain rfl : vy = .nilIface := HVy.out
            have hsv := HSV.out rfl rfl
            cases DX
            · skip
              go_wp2
              go_ret
              exact ⟨rfl, HB.out⟩
            · skip
              go_wp2
              go_ret
              exact ⟨rfl, HB.out⟩
end Go.Proofs.YtjpjlfjaapfnkaaGreatDoor

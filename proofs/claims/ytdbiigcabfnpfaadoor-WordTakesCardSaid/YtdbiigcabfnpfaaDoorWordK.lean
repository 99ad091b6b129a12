/-
  catchboltlaw03.WordTakes: what any bytes are taken to is the document's. No other conditions.
-/
import Derived.Test.YtdbiigcabfnpfaaDoorWordS
namespace Go.Proofs.YtdbiigcabfnpfaaDoor
open Go.ChangeShapes Go.WideShapes Go.ChangeAt Go.RowKit
set_option linter.unusedVariables false

/-- what takeS gives, by its three ways -/
theorem takeS_cases (zb : List Int) (pl n : Nat) (width : Int) (hl : zb.length = n) (hp : pl ≤ n) :
    (takeS zb pl width = (0, 1, -1) ∧ takeAt zb pl width = pl) ∨ (takeS zb pl width = (0, 3, (n : Int)) ∧ takeAt zb pl width = pl) ∨
    ∃ (N : Int) (W : Nat), takeS zb pl width = (N, 0, -1) ∧ takeAt zb pl width = pl + W ∧ width = W ∧ pl + W ≤ n ∧ W ≤ 4 := by
  rcases hok : okW width with _ | _
  · exact .inl ⟨takeS_bad hok, by unfold takeAt; rw [takeS_bad hok]; rfl⟩
  · obtain ⟨hw1, hw4⟩ := okW_iff.1 hok
    by_cases hs : zb.length < pl + width.toNat
    · exact .inr (.inl ⟨by rw [takeS_short hok hs, hl], by unfold takeAt; rw [takeS_short hok hs]; rfl⟩)
    · exact .inr (.inr ⟨_, width.toNat, takeS_ok hok hs, by unfold takeAt; rw [takeS_ok hok hs]; rfl, by omega, by omega, by omega⟩)

set_option maxRecDepth 100000 in
set_option maxHeartbeats 2000000 in
theorem takes_true (A L : Option Addr) (n c m cm : Nat) (zb zl : List Int) (w : World) (hE : ErrT w) (hl : zb.length = n) (h : RdN .u8 w A zb) (hr : ∀ x ∈ zb, 0 ≤ x ∧ x < 256) (hm : zl.length = m) (hL : RdN .i64 w L zl) (hzl : ∀ x ∈ zl, (Lit.int .i64 x).wf = true)
    (hbig : n ≤ 140737488355328) (hbig2 : m ≤ 140737488355328) :
    Calls Tryd.prog 5 #[.slice A n c, .slice L m cm] w fun e w' => e = .returned (.bool true) ∧ Below w.heap.size w w' := by
  have HA := Lib.hid (alive_true w hE)
  have HE := Lib.hid hE
  have HL := Lib.hid hl
  have HM := Lib.hid hm
  have HR := Lib.hid h
  have HRL := Lib.hid hL
  clear hE hl hm h hL
  go_enter Tryd.func5, Tryd.ntmps5
  go_wp2_with fail
  refine HA.out.mono ?_
  rintro e w1 ⟨rfl, hb1⟩
  have hs1 := hb1.size
  have hbB : Below w.heap.size w (w1.alloc (.cells #[] 5)) := hb1.alloc hs1 _
  have hR1 := HR.out.below hbB
  have hO1 := own_empty w1 5 1
  have hsB : w1.heap.size ≤ (w1.alloc (.cells #[] 5)).heap.size := by simp
  go_wp2_with (at_builtin; refine wpList_append_nums rfl _ _ rfl rfl Tryd.underlying22 u8_info (by decide) w1.heap.size _ 0 [] rfl hO1 A n c zb rfl HL.out hR1 hsB (by omega) ?_; intro v2 w2 hown2 hg2)
  rw [Nat.zero_add] at hown2
  have hb2 : Below w.heap.size w w2 := hbB.grown hg2 hbB.size (fun k hk => by have := (hO1.lt k hk).1; omega)
  obtain ⟨hlo, A2, c2, rfl, hc2, hm2, hR2, hB2⟩ := rdn_of_own hown2
  have HN := Lib.hid (new_any A2 n c2 _ w2 hlo hR2 hbig)
  have HO := Lib.hid hown2
  clear hR2 hlo hown2 hO1 hR1 hg2 hbB
  go_wp2_with fail
  refine HN.out.mono ?_
  rintro e w3 ⟨⟨g, A3, c3, rfl, hR3⟩, hb3⟩
  have hs2 := hb2.size
  have hO3 := own_below HO.out hb3
  have hb3' : Below w.heap.size w w3 := hb2.trans (hb3.mono hs2)
  generalize hBB : w2.heap.size = B at *
  have hBw : w.heap.size ≤ B := hs2
  clear HN HO hb3 hBB hs2
  go_wp2
  go_loopw [7] (fun i wr => Below w.heap.size w wr ∧ Rdr wr B g A3 n c3 zb 0 ∧ (∃ xs, wr.ownsRow w1.heap.size 5 1 (.slice A2 n c2) n xs) ∧ ∃ k : Nat, k ≤ n ∧ i = .int .i64 k) (fun i _ => n - (intOf i).toNat)
  case atStart => exact ⟨hb3', hR3, ⟨_, hO3⟩, 0, by omega, rfl⟩
  case round =>
    obtain ⟨hbr, hRr, ⟨xs, hOr⟩, k, hk, rfl⟩ := hrel
    have hsr := hbr.size
    by_cases hlt : k < n
    · have hlt' : (k : Int) < n := by omega
      obtain ⟨q, hq⟩ : ∃ q, A2 = some ⟨q, 0, none⟩ := by
        rcases hOr.2 with ⟨h1, h2⟩ | ⟨q, cap, cur, h1, _⟩
        · omega
        · simp at h1; exact ⟨q, h1.1⟩
      subst hq
      have hqB := hB2 _ _ rfl
      have hcell := hOr.cellAt k (by omega)
      have hxl := hOr.1
      rw [List.getElem?_eq_getElem (by omega)] at hcell
      have hfz := hOr.frozenAt k
      obtain ⟨hOs, hGs⟩ := hOr.stored k (.int .u8 0)
      generalize xs[k]'(by omega) = x0 at hcell
      have hbs : Below w.heap.size w (wr.setCell ⟨q, k, none⟩ (.int .u8 0)) := hbr.setCell (by show w.heap.size ≤ q; omega) _
      have hRs : Rdr (wr.setCell ⟨q, k, none⟩ (.int .u8 0)) B g A3 n c3 zb 0 := hRr.kept (fun j hj _ => Below.heap_setCell _ _ _ _ (by show j ≠ q; omega)) (by simp)
      have HRs := Lib.hid hRs
      have HOs := Lib.hid hOs
      clear hRs hOs hGs hOr hRr hxl
      go_wp2
      refine ⟨⟨hbs, HRs.out, ⟨_, HOs.out⟩, k + 1, by omega, by simp⟩, by simp [intOf]; omega⟩
    · have hk' : k = n := by omega
      subst hk'
      have hge : ¬ (k : Int) < k := by omega
      have HRr := Lib.hid hRr
      clear hOr hRr hB2 hR3 hO3
      go_wp2
      go_loopw [8, 9] (fun a i wx => Below w.heap.size w wx ∧ ∃ (p j : Nat), a = .int .i64 p ∧ Rdr wx B g A3 k c3 zb p ∧ j ≤ m ∧ i = .int .i64 j) (fun _ i _ => m - (intOf i).toNat)
      case atStart => exact ⟨hbr, 0, 0, rfl, HRr.out, by omega, rfl⟩
      case round =>
        obtain ⟨hbx, p, j, rfl, hRx, hj, rfl⟩ := hrel
        have hsx := hbx.size
        by_cases hjm : j < m
        · have hjm' : (j : Int) < m := by omega
          have hpn := hRx.le
          have hwf : (Lit.int .i64 (zl.getD j 0)).wf = true := by
            have hjl : j < zl.length := by rw [HM.out]; exact hjm
            rw [List.getD_eq_getElem?_getD, List.getElem?_eq_getElem hjl]
            exact hzl _ (List.getElem_mem hjl)
          obtain ⟨ql, ol, hQ, hc⟩ := HRL.out
          obtain ⟨rfl, hql⟩ := hQ (by rw [HM.out]; omega)
          have cw := hc j (by rw [HM.out]; omega)
          have c0 := (hbx.cell (p := ⟨ql, _, none⟩) hql).trans cw
          have HQ := Lib.hid hql
          clear hc hQ
          have HRx := Lib.hid hRx
          have HWF := Lib.hid hwf
          have hcases := takeS_cases zb p k (zl.getD j 0) HL.out hpn
          generalize zl.getD j 0 = z at *
          go_wp2_with fail
          refine (take_any _ _ _ _ _ _ _ z _ HRx.out hr HWF.out).mono ?_
          rintro e w4 ⟨⟨ev, rfl, hE4, hR4⟩, hg4⟩
          have hb4 : Below w.heap.size w w4 := Below.grown hbx hg4 hsx (fun q e => by cases e; have := HRx.out.lo; omega)
          have c4 := (hb4.cell (p := ⟨ql, _, none⟩) HQ.out).trans cw
          have hRb := Lib.hid (HR.out.below hb4)
          go_wp2_with fail
          refine (rtake_any _ _ _ zb p z _ HL.out hRb.out hr hpn hbig HWF.out).mono ?_
          rintro e w5 ⟨rfl, rfl⟩
          have HE4 := Lib.hid (HE.out.below hb4)
          have HR4 := Lib.hid hR4
          have HEV := Lib.hid hE4
          have HA4 := Lib.hid (at_any _ _ _ _ _ _ _ _ hR4)
          have HF4 := Lib.hid (left_any _ _ _ _ _ _ _ _ hR4)
          clear hE4 hR4
          rcases hcases with ⟨hT, hP⟩ | ⟨hT, hP⟩ | ⟨N, W, hT, hP, rfl, hpW, hW4⟩
          · rw [hT] at HEV
            rw [hP] at HR4 HA4 HF4
            rw [hT]
            clear hT hP
            simp only at HEV
            go_wp2_with (first
              | (go_at_call 11; refine (code_err _ _ _ _ HEV.out).mono ?_; rintro e w' ⟨rfl, rfl⟩)
              | (go_at_call 17; refine (HA4.out).mono ?_; rintro e w' ⟨rfl, rfl⟩))
            refine HF4.out.mono ?_
            rintro e w5 ⟨rfl, hb5⟩
            have hb5' := hb4.trans (hb5.mono hb4.size)
            go_wp2
            exact ⟨⟨hb5', p, j + 1, rfl, HR4.out.below hb5, by omega, by simp⟩, by simp [intOf]; omega⟩
          · rw [hT] at HEV
            rw [hP] at HR4
            rw [hT]
            clear hT hP HA4 HF4
            simp only at HEV
            go_wp2_with (first
              | (go_at_call 11; refine (code_err _ _ _ _ HEV.out).mono ?_; rintro e w' ⟨rfl, rfl⟩))
            refine (at_err _ _ _ _ HEV.out HE4.out).mono ?_
            rintro e w5 ⟨rfl, hb5⟩
            have hb5' := hb4.trans (hb5.mono hb4.size)
            have hR5 := HR4.out.below hb5
            have HA5 := Lib.hid (at_any _ _ _ _ _ _ _ _ hR5)
            have HF5 := Lib.hid (left_any _ _ _ _ _ _ _ _ hR5)
            have HR5 := Lib.hid hR5
            clear hR5
            go_wp2_with (first
              | (go_at_call 17; refine (HA5.out).mono ?_; rintro e w' ⟨rfl, rfl⟩))
            refine HF5.out.mono ?_
            rintro e w6 ⟨rfl, hb6⟩
            have hb6' := hb5'.trans (hb6.mono hb5'.size)
            go_wp2
            exact ⟨⟨hb6', p, j + 1, rfl, HR5.out.below hb6, by omega, by simp⟩, by simp [intOf]; omega⟩
          · rw [hT] at HEV
            rw [hP] at HR4 HA4 HF4
            rw [hT]
            clear hT hP
            simp only at HEV
            go_wp2_with (first
              | (go_at_call 11; refine (code_err _ _ _ _ HEV.out).mono ?_; rintro e w' ⟨rfl, rfl⟩)
              | (go_at_call 17; refine (HA4.out).mono ?_; rintro e w' ⟨rfl, rfl⟩))
            refine HF4.out.mono ?_
            rintro e w5 ⟨rfl, hb5⟩
            have hb5' := hb4.trans (hb5.mono hb4.size)
            go_wp2
            go_show
            exact ⟨⟨hb5', p + W, j + 1, by simp, HR4.out.below hb5, by omega, by simp⟩, by simp [intOf]; omega⟩
        · have hjm' : j = m := by omega
          subst hjm'
          have hge : ¬ (j : Int) < j := by omega
          go_wp2
          go_ret
          exact ⟨rfl, hbx⟩
end Go.Proofs.YtdbiigcabfnpfaaDoor

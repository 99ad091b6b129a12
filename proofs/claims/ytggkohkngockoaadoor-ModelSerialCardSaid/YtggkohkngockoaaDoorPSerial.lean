/-
  catchboltlaw20.ModelSerial: of committed transactions that clash the one committed first was so ahead of the other one's getting it. The conditions: errors.errorType reads as the program's text lays it; the events' numbers are numbers.
-/
import Derived.Test.YtggkohkngockoaaDoorPBegins
import Derived.Test.YtggkohkngockoaaDoorPSerM
namespace Go.Proofs.YtggkohkngockoaaDoor
open Go.ChangeShapes Go.WideShapes Go.ChangeAt Go.RowKit Go.Maps
set_option linter.unusedVariables false
set_option linter.unusedSimpArgs false

/-- the map of places at mb, k events read -/
def EndX (w : World) (mb : Nat) (l : List Ev) (k : Nat) : Prop := w.ownsMap Tryd.prog 3 (plainElem Tryd.prog 3) mb k (endD l k)
theorem intZero (w : World) : (zeroValue 3).run Tryd.prog w = .ok (.int .i64 0) w := by kernel_rfl
theorem plainInt {a : Int} (h : (Lit.int .i64 a).wf = true) : plainElem (H := Unit) Tryd.prog 3 (.int .i64 a) = some (modeD a, []) := plainElem_int Tryd.underlying3 h
theorem EndX.look {w : World} {mb : Nat} {l : List Ev} {k : Nat} (h : EndX w mb l k) (hk : k ≤ l.length) (hw : ∀ k, k < l.length → (Lit.int .i64 (l.getD k Ev.none).tx).wf = true) {t : Int} (ht : (Lit.int .i64 t).wf = true) :
    (Instr.lookup 38 (.map (some mb)) (.int .i64 t) false).run Tryd.prog w = .ok (.int .i64 (endV l k t)) w := by
  obtain ⟨c, hrun, hat, _⟩ := World.ownsMap.lookup_int h intK Tryd.underlying38 Tryd.underlying3 (intZero w) (keyOf_int ht)
  have := endD_at hw ht k hk
  unfold modeD at this
  rw [this] at hat
  have e : endV l k t = c := by simpa using hat
  rw [e]; exact hrun
theorem endx_begin (w : World) (l : List Ev) : EndX (w.alloc (.map #[] 0)) w.heap.size l 0 := World.ownsMap_made w _ _ _
theorem endx_same {w : World} {mb : Nat} {l : List Ev} {k : Nat} (h : EndX w mb l k) (h6 : ¬ (l.getD k Ev.none).kind = 6) : EndX w mb l (k + 1) := by
  unfold EndX at h ⊢
  unfold endD
  rw [if_neg h6]
  exact World.ownsMap.mono h (by omega)
theorem EndX.below {w w' : World} {mb : Nat} {l : List Ev} {k : Nat} (h : EndX w mb l k) (hb : Below w.heap.size w w') : EndX w' mb l k := World.ownsMap.kept h (gb_below (r := none) hb) (by simp)
theorem ser_wf {l : List Ev} (hw : ∀ k, k < l.length → (Lit.int .i64 (l.getD k Ev.none).tx).wf = true) {i : Nat} (hi : i < (serialR l).length) : (Lit.int .i64 ((serialR l).getD i 0)).wf = true ∧ (serialR l).getD i 0 ∈ serialR l := by
  have hm : (serialR l).getD i 0 ∈ serialR l := by
    rw [List.getD_eq_getElem?_getD, List.getElem?_eq_getElem hi]; exact List.getElem_mem hi
  refine ⟨?_, hm⟩
  generalize (serialR l).getD i 0 = t at hm
  unfold serialR at hm
  obtain ⟨e, he, rfl⟩ := List.mem_map.1 hm
  obtain ⟨k, hk, rfl⟩ := List.mem_iff_getElem.1 (List.mem_filter.1 he).1
  have := hw k hk
  rwa [List.getD_eq_getElem?_getD, List.getElem?_eq_getElem hk] at this
theorem endV_ser {l : List Ev} (ho : okF start l 0 = true) {i : Nat} (hi : i < (serialR l).length) : endV l l.length ((serialR l).getD i 0) = endR l ((serialR l).getD i 0) := by
  have hm : (serialR l).getD i 0 ∈ serialR l := by
    rw [List.getD_eq_getElem?_getD, List.getElem?_eq_getElem hi]; exact List.getElem_mem hi
  have := endV_end ho l.length (Nat.le_refl _) (t := (serialR l).getD i 0) (by rw [List.take_length]; exact hm)
  rw [List.take_length] at this
  exact this
theorem right_wf {l : List Ev} (h : ∀ k, k < l.length → (Lit.int .i64 (l.getD k Ev.none).tx).wf = true) : ∀ k, k < (rightF l).length → (Lit.int .i64 ((rightF l).getD k Ev.none).tx).wf = true := by
  intro k hk
  rcases ok_or l with h' | ⟨p, q, h'⟩
  · rw [rightF_ok h'] at hk ⊢; exact h k hk
  · have e : rightF l = l.take p := by unfold rightF; rw [h']
    rw [e] at hk ⊢
    rw [List.length_take] at hk
    rw [List.getD_eq_getElem?_getD, List.getElem?_take_of_lt (by omega), ← List.getD_eq_getElem?_getD]
    exact h k (by omega)
theorem serial_len' (l : List Ev) : (serialR l).length ≤ l.length := by
  unfold serialR
  rw [List.length_map]
  exact List.length_filter_le _ _
set_option maxRecDepth 100000 in
set_option maxHeartbeats 8000000 in
theorem serial_true (A : Option Addr) (n cp : Nat) (os : List Ev) (w : World) (hE : ErrT w) (hr : RdE w A os) (hl : os.length = n) (hcp : n ≤ cp) (hwf : ∀ k, k < os.length → (Lit.int .i64 (os.getD k Ev.none).tx).wf = true) :
    Calls Tryd.prog 5 #[.slice A n cp] w fun e w' => e = .returned (.bool true) ∧ Below w.heap.size w w' := by
  have HET := Lib.hid hE
  have HR0 := Lib.hid hr
  have HL0 := Lib.hid hl
  have HCP := Lib.hid hcp
  have HWF := Lib.hid hwf
  have HAL := Lib.hid (alive_true w hE)
  clear hE hr hl hcp hwf
  go_enter Tryd.func5, Tryd.ntmps5
  by_cases h60 : n ≤ 60
  rotate_left
  · have h60' : 60 < (n : Int) := by omega
    go_wp2_with fail
    refine HAL.out.mono ?_
    rintro e w1 ⟨rfl, hb1⟩
    go_wp2
    go_ret
    exact ⟨rfl, hb1⟩
  have h60' : ¬ 60 < (n : Int) := by omega
  go_wp2_with fail
  refine HAL.out.mono ?_
  rintro e w1 ⟨rfl, hb1⟩
  have HB1 := Lib.hid hb1
  have HRT := Lib.hid (right_any A n cp os w1 (HET.out.below hb1) (HR0.out.below hb1 (Nat.le_refl _)) HL0.out HCP.out (by omega))
  clear hb1
  go_wp2_with fail
  refine HRT.out.mono ?_
  rintro e w2 ⟨rfl, hb2⟩
  have HB2 := Lib.hid (HB1.out.trans (hb2.mono HB1.out.size))
  have HLR := right_le os
  have hok := right_ok os
  have hrr := right_rd (HR0.out.below HB2.out (Nat.le_refl _))
  have hwr := right_wf HWF.out
  obtain ⟨es, hes⟩ : ∃ l, rightF os = l := ⟨_, rfl⟩
  rw [hes] at HLR hok hrr hwr
  rw [hes]
  obtain ⟨R, hR⟩ : ∃ R, es.length = R := ⟨_, rfl⟩
  rw [hR]
  rw [hR] at HLR
  have hRn : R ≤ 60 := by have := HL0.out; omega
  have HL := Lib.hid hR
  have HOK := Lib.hid hok
  have HR := Lib.hid hrr
  have HW := Lib.hid hwr
  clear hes hb2 HRT HLR hok hrr hwr hR HR0 HL0 HWF HCP h60 h60'
  have HS := Lib.hid (serial_good A R cp es w2 HR.out HL.out (by omega) (play_ok HOK.out))
  go_wp2_with fail
  refine HS.out.mono ?_
  rintro e w3 ⟨⟨v, rfl, hown⟩, hb3⟩
  have HB3 := Lib.hid (HB2.out.trans (hb3.mono HB2.out.size))
  have hsq := serial_eq HOK.out
  obtain ⟨ser, hser⟩ : ∃ l, (after start es 0).serial = l := ⟨_, rfl⟩
  rw [hser] at hown hsq
  have HSQ := Lib.hid hsq
  obtain ⟨_, A8, c8, rfl, _, _, hrn, _⟩ := rdn_of_own hown
  have HRN := Lib.hid hrn
  have HR3 := Lib.hid (HR.out.below hb3 (Nat.le_refl _))
  clear hb3 hown HS hser hsq hrn
  have hmk : ∀ W : World, (Instr.makeMap 38 none).run Tryd.prog W = .ok (.map (some W.heap.size)) (W.alloc (.map #[] 0)) := fun W => rfl
  go_wp2
  have hbm : Below w3.heap.size w3 (w3.alloc (.map #[] 0)) := (Below.refl _ _).alloc (Nat.le_refl _) _
  go_loopw [7] (fun i wr => ∃ k : Nat, k ≤ R ∧ i = .int .i64 k ∧ Below w3.heap.size w3 wr ∧ EndX wr w3.heap.size es k) (fun i _ => R - (intOf i).toNat)
  case atStart => exact ⟨0, Nat.zero_le _, rfl, hbm, endx_begin _ _⟩
  case round =>
    obtain ⟨k, hk, rfl, hbr, hex⟩ := hrel
    have HBR := Lib.hid hbr
    have HEX := Lib.hid hex
    clear hbr hex hbm
    by_cases hlt : k < R
    · have hlt' : (k : Int) < R := by omega
      have HRR := Lib.hid (HR3.out.below HBR.out (Nat.le_refl _))
      have hkl : k < es.length := by rw [HL.out]; exact hlt
      obtain ⟨ge, oe, hA, hc⟩ := (HRR.out)
      obtain ⟨rfl, lge⟩ := hA (by rw [HL.out]; omega)
      obtain ⟨p0, p1, p2, p3, p4, p5, p6⟩ := hc k hkl
      have HKL := Lib.hid hkl
      clear hA hc hkl
      obtain ⟨E, hE⟩ : ∃ E, es.getD k Ev.none = E := ⟨_, rfl⟩
      have HE := Lib.hid hE
      rw [hE] at p0 p1 p2 p3 p4 p5 p6
      clear hE
      obtain ⟨ek, ec, ex, et, er, em, eq⟩ := E
      simp only at p0 p1 p2 p3 p4 p5 p6
      by_cases h6 : ek = 6
      · subst h6
        have HWX := Lib.hid (HW.out k HKL.out)
        rw [HE.out] at HWX
        have HWK := Lib.hid (show (Lit.int .i64 (k : Int)).wf = true from wf_of _ (by omega))
        go_wp2_with (at_mapUpdate; refine wpList_mapUpdate_own _ rfl _ _ _ 38 rfl 3 3 intK Tryd.underlying38 (plainElem Tryd.prog 3) w3.heap.size k (endD es k) rfl HEX.out (by unfold maxLen; omega) (.int .i64 ex) (.int .i64 k) (.int .i64 ex) rfl rfl (keyOf_int HWX.out) (modeD k) [] (plainInt HWK.out) ?_; intro w5 hown5 hgrow5; have HX5 : Hid (EndX w5 w3.heap.size es (k + 1)) := Lib.hid (by unfold EndX endD; rw [HE.out, if_pos rfl]; exact hown5); have HB5 : Hid (Below w3.heap.size w3 w5) := Lib.hid (HBR.out.grown hgrow5 HBR.out.size (fun q hq => by cases hq; exact Nat.le_refl _)); clear hown5 hgrow5)
        go_roundw
        case rel => exact ⟨k + 1, by omega, by go_num, HB5.out, HX5.out⟩
        case measure => simp [intOf]; omega
      · have h6b : (ek == 6) = false := by simpa using h6
        have HX5 := Lib.hid (endx_same HEX.out (by rw [HE.out]; exact h6))
        clear h6
        go_wp2
        go_roundw
        case rel => exact ⟨k + 1, by omega, by go_num, HBR.out, HX5.out⟩
        case measure => simp [intOf]; omega
    · have hkn : k = R := by omega
      subst hkn
      have hge : ¬ (k : Int) < k := by omega
      have hz := (endD_size HOK.out HW.out k (by rw [HL.out]; exact Nat.le_refl _)).2.1
      rw [show es.take k = es by rw [← HL.out]; exact List.take_length, HSQ.out] at hz
      have hlen := World.ownsMap.len HEX.out Tryd.underlying38 3
      rw [hz] at hlen
      have hsl := serial_len' es
      rw [HSQ.out, HL.out] at hsl
      have hee : (((ser.length : Nat) : Int) != (ser.length : Int)) = false := by simp
      obtain ⟨wo, rfl⟩ : ∃ W, W = wr := ⟨_, rfl⟩
      obtain ⟨N, hN⟩ : ∃ N, ser.length = N := ⟨_, rfl⟩
      rw [hN] at hlen hsl hee ⊢
      have HN := Lib.hid hN
      clear hN hz
      go_wp2
      go_loopw [8] (fun i wx => ∃ a : Nat, a ≤ N ∧ i = .int .i64 a ∧ Below wo.heap.size wo wx) (fun i _ => N - (intOf i).toNat)
      case atStart => exact ⟨0, Nat.zero_le _, rfl, Below.refl _ _⟩
      case round =>
        obtain ⟨i, hi, rfl, hbx⟩ := hrel
        obtain ⟨wp, rfl⟩ : ∃ W, W = wr := ⟨_, rfl⟩
        have HBX := Lib.hid hbx
        clear hbx
        by_cases hli : i < N
        rotate_left
        · have hni : i = N := by omega
          subst hni
          have hgi : ¬ (i : Int) < i := by omega
          go_wp2
          go_ret
          exact ⟨rfl, HB3.out.trans ((HBR.out.trans (HBX.out.mono HBR.out.size)).mono HB3.out.size)⟩
        have hli' : (i : Int) < N := by omega
        obtain ⟨gs, os, hAs, hcs⟩ := HRN.out
        obtain ⟨rfl, lgs⟩ := hAs (by rw [HN.out]; omega)
        have HCS := Lib.hid hcs
        have HGS := Lib.hid lgs
        clear hAs hcs lgs
        go_wp2
        go_loopw [9] (fun i' wy => ∃ j : Nat, i + 1 ≤ j ∧ j ≤ N ∧ i' = .int .i64 j ∧ Below wo.heap.size wo wy) (fun i' _ => N - (intOf i').toNat)
        case atStart => exact ⟨i + 1, Nat.le_refl _, by omega, by first | go_num | simp, HBX.out⟩
        case round =>
          obtain ⟨j, hij, hj, rfl, hby⟩ := hrel
          obtain ⟨wy, rfl⟩ : ∃ W, W = wr := ⟨_, rfl⟩
          have HBY := Lib.hid hby
          clear hby
          by_cases hlj : j < N
          rotate_left
          · have hnj : j = N := by omega
            subst hnj
            have hgj : ¬ (j : Int) < j := by omega
            go_wp2
            go_roundw
            case rel => exact ⟨i + 1, by omega, by go_num, HBY.out⟩
            case measure => simp [intOf]; omega
          have hlj' : (j : Int) < N := by omega
          have hji : j < (serialR es).length := by rw [HSQ.out, HN.out]; exact hlj
          have hii : i < (serialR es).length := by rw [HSQ.out, HN.out]; exact hli
          have hlaw := serial_law HOK.out (show i < j by omega) hji
          have hwi := (ser_wf HW.out hii).1
          have hwj := (ser_wf HW.out hji).1
          have hvi := endV_ser HOK.out hii
          have hvj := endV_ser HOK.out hji
          rw [HSQ.out] at hlaw hwi hwj hvi hvj
          have ci := HCS.out i (by rw [HN.out]; exact hli)
          have cj := HCS.out j (by rw [HN.out]; exact hlj)
          obtain ⟨X, hX⟩ : ∃ x, ser.getD i 0 = x := ⟨_, rfl⟩
          obtain ⟨Y, hY⟩ : ∃ x, ser.getD j 0 = x := ⟨_, rfl⟩
          rw [hX] at hlaw hwi hvi ci
          rw [hY] at hlaw hwj hvj cj
          clear hX hY
          obtain ⟨PX, hPX⟩ : ∃ p, endR es X = p := ⟨_, rfl⟩
          obtain ⟨PY, hPY⟩ : ∃ p, endR es Y = p := ⟨_, rfl⟩
          rw [hPX] at hlaw hvi
          rw [hPY] at hlaw hvj
          rw [HL.out] at hvi hvj hlaw
          clear hPX hPY hji hii
          have hB3y := HBR.out.trans (HBY.out.mono HBR.out.size)
          have kx := (hB3y.cell (p := ⟨gs, os + i, none⟩) HGS.out).trans ci
          have ky := (hB3y.cell (p := ⟨gs, os + j, none⟩) HGS.out).trans cj
          have lkx : ∀ q, (Instr.lookup 38 (.map (some w3.heap.size)) (.int .i64 X) false).run Tryd.prog (wy.drewN q) = .ok (.int .i64 PX) (wy.drewN q) := fun q => by
            have := ((HEX.out.below HBY.out).below (below_drewN (Below.refl _ _) q)).look (by rw [HL.out]; exact Nat.le_refl _) HW.out hwi
            rw [hvi] at this; exact this
          have lky : ∀ q, (Instr.lookup 38 (.map (some w3.heap.size)) (.int .i64 Y) false).run Tryd.prog (wy.drewN q) = .ok (.int .i64 PY) (wy.drewN q) := fun q => by
            have := ((HEX.out.below HBY.out).below (below_drewN (Below.refl _ _) q)).look (by rw [HL.out]; exact Nat.le_refl _) HW.out hwj
            rw [hvj] at this; exact this
          have hpp : ¬ (PY : Int) ≤ PX := by have := hlaw.1; omega
          have hppd : decide (PY ≤ PX) = false := by have := hlaw.1; simpa using this
          have HLAW := Lib.hid hlaw.2.2
          have HCI := Lib.hid ci
          have HCJ := Lib.hid cj
          have HVI := Lib.hid hvi
          have HWI := Lib.hid hwi
          clear hlaw hvi hvj hwj ci cj hB3y hwi
          go_wp2_with fail
          go_quiet (fail)
          go_wp2_with fail
          generalize hwz : World.drewN wy nq = wz
          have HBZ : Hid (Below wo.heap.size wo wz) := Lib.hid (by rw [← hwz]; exact below_drewN HBY.out _)
          clear hwz lkx lky kx ky
          go_loopw [10] (fun i' wx => ∃ a : Nat, a ≤ k ∧ i' = .int .i64 a ∧ Below wo.heap.size wo wx) (fun i' _ => k - (intOf i').toNat)
          case atStart => exact ⟨0, Nat.zero_le _, rfl, HBZ.out⟩
          case round =>
            obtain ⟨a, ha, rfl, hba⟩ := hrel
            obtain ⟨wa, rfl⟩ : ∃ W, W = wr := ⟨_, rfl⟩
            have HBA := Lib.hid hba
            clear hba
            by_cases hla : a < k
            rotate_left
            · have hga : ¬ (a : Int) < k := by omega
              go_wp2
              go_roundw
              case rel => exact ⟨j + 1, by omega, by omega, by go_num, HBA.out⟩
              case measure => simp [intOf]; omega
            have hla' : (a : Int) < k := by omega
            go_wp2
            go_loopw [11] (fun i' wx => ∃ b : Nat, b ≤ k ∧ i' = .int .i64 b ∧ Below wo.heap.size wo wx) (fun i' _ => k - (intOf i').toNat)
            case atStart => exact ⟨0, Nat.zero_le _, rfl, HBA.out⟩
            case round =>
              obtain ⟨b, hb, rfl, hbq⟩ := hrel
              have HBQ := Lib.hid hbq
              clear hbq
              by_cases hlb : b < k
              rotate_left
              · have hgb : ¬ (b : Int) < k := by omega
                go_wp2
                go_roundw
                case rel => exact ⟨a + 1, by omega, by go_num, HBQ.out⟩
                case measure => simp [intOf]; omega
              have hlb' : (b : Int) < k := by omega
              have hB3q := HBR.out.trans (HBQ.out.mono HBR.out.size)
              have kx := (hB3q.cell (p := ⟨gs, os + i, none⟩) HGS.out).trans HCI.out
              have ky := (hB3q.cell (p := ⟨gs, os + j, none⟩) HGS.out).trans HCJ.out
              have lkx : ∀ q, (Instr.lookup 38 (.map (some w3.heap.size)) (.int .i64 X) false).run Tryd.prog (wr.drewN q) = .ok (.int .i64 PX) (wr.drewN q) := fun q => by
                have := ((HEX.out.below HBQ.out).below (below_drewN (Below.refl _ _) q)).look (by rw [HL.out]; exact Nat.le_refl _) HW.out HWI.out
                rw [HVI.out] at this; exact this
              obtain ⟨ge, oe, hA, hc⟩ := HR3.out.below hB3q (Nat.le_refl _)
              obtain ⟨rfl, lge⟩ := hA (by rw [HL.out]; omega)
              obtain ⟨p0, p1, p2, p3, p4, p5, p6⟩ := hc a (by rw [HL.out]; exact hla)
              obtain ⟨q0, q1, q2, q3, q4, q5, q6⟩ := hc b (by rw [HL.out]; exact hlb)
              have hL := HLAW.out a b hla hlb
              clear hA hc hB3q
              obtain ⟨E, hE⟩ : ∃ E, es.getD a Ev.none = E := ⟨_, rfl⟩
              obtain ⟨E2, hE2⟩ : ∃ E, es.getD b Ev.none = E := ⟨_, rfl⟩
              rw [hE] at p0 p1 p2 p3 p4 p5 p6 hL
              rw [hE2] at q0 q1 q2 q3 q4 q5 q6 hL
              clear hE hE2
              obtain ⟨ek, ec, ex, et, er, em, eq⟩ := E
              obtain ⟨fk, fc, fx, ft, fr, fm, fq⟩ := E2
              simp only at p0 p1 p2 p3 p4 p5 p6 q0 q1 q2 q3 q4 q5 q6 hL
              have HLL := Lib.hid hL
              have HTG := Lib.hid (fun W => rtog_any em fm W)
              clear hL
              by_cases h1 : ek = 3
              rotate_left
              · have h1b : (ek == 3) = false := by simpa using h1
                clear h1
                go_wp2_with fail
                go_quiet (fail)
                go_wp2_with fail
                go_quiet ((go_at_call 16; exact (HTG.out _).mono (fun _ _ h => ⟨h.1, _, h.2.symm⟩)))
                go_wp2
                go_roundw
                case rel => exact ⟨b + 1, by omega, by go_num, below_drewN HBQ.out _⟩
                case measure => simp [intOf]; omega
              subst h1
              by_cases h2 : fk = 3
              rotate_left
              · have h2b : (fk == 3) = false := by simpa using h2
                clear h2
                go_wp2_with fail
                go_quiet (fail)
                go_wp2_with fail
                go_quiet ((go_at_call 16; exact (HTG.out _).mono (fun _ _ h => ⟨h.1, _, h.2.symm⟩)))
                go_wp2
                go_roundw
                case rel => exact ⟨b + 1, by omega, by go_num, below_drewN HBQ.out _⟩
                case measure => simp [intOf]; omega
              subst h2
              by_cases h3 : ex = X
              rotate_left
              · have h3b : (ex == X) = false := by simpa using h3
                clear h3
                go_wp2_with fail
                go_quiet (fail)
                go_wp2_with fail
                go_quiet ((go_at_call 16; exact (HTG.out _).mono (fun _ _ h => ⟨h.1, _, h.2.symm⟩)))
                go_wp2
                go_roundw
                case rel => exact ⟨b + 1, by omega, by go_num, below_drewN HBQ.out _⟩
                case measure => simp [intOf]; omega
              subst h3
              by_cases h4 : fx = Y
              rotate_left
              · have h4b : (fx == Y) = false := by simpa using h4
                clear h4
                go_wp2_with fail
                go_quiet (fail)
                go_wp2_with fail
                go_quiet ((go_at_call 16; exact (HTG.out _).mono (fun _ _ h => ⟨h.1, _, h.2.symm⟩)))
                go_wp2
                go_roundw
                case rel => exact ⟨b + 1, by omega, by go_num, below_drewN HBQ.out _⟩
                case measure => simp [intOf]; omega
              subst h4
              by_cases h5 : et = ft
              rotate_left
              · have h5b : (et == ft) = false := by simpa using h5
                clear h5
                go_wp2_with fail
                go_quiet (fail)
                go_wp2_with fail
                go_quiet ((go_at_call 16; exact (HTG.out _).mono (fun _ _ h => ⟨h.1, _, h.2.symm⟩)))
                go_wp2
                go_roundw
                case rel => exact ⟨b + 1, by omega, by go_num, below_drewN HBQ.out _⟩
                case measure => simp [intOf]; omega
              subst h5
              by_cases h6 : er = fr
              rotate_left
              · have h6b : (er == fr) = false := by simpa using h6
                clear h6
                go_wp2_with fail
                go_quiet (fail)
                go_wp2_with fail
                go_quiet ((go_at_call 16; exact (HTG.out _).mono (fun _ _ h => ⟨h.1, _, h.2.symm⟩)))
                go_wp2
                go_roundw
                case rel => exact ⟨b + 1, by omega, by go_num, below_drewN HBQ.out _⟩
                case measure => simp [intOf]; omega
              subst h6
              cases htg : togB em fm with
              | true =>
                rw [htg] at HTG
                clear htg
                go_wp2_with fail
                go_quiet (fail)
                go_wp2_with fail
                go_quiet ((go_at_call 16; exact (HTG.out _).mono (fun _ _ h => ⟨h.1, _, h.2.symm⟩)))
                go_wp2
                go_roundw
                case rel => exact ⟨b + 1, by omega, by go_num, below_drewN HBQ.out _⟩
                case measure => simp [intOf]; omega
              | false =>
                have hbx := HLL.out rfl rfl rfl rfl rfl rfl htg
                have hbx' : ¬ (b : Int) < PX := by omega
                rw [htg] at HTG
                clear htg hbx
                go_wp2_with fail
                go_quiet (fail)
                go_wp2_with fail
                go_quiet ((go_at_call 16; exact (HTG.out _).mono (fun _ _ h => ⟨h.1, _, h.2.symm⟩)))
                go_wp2
                go_roundw
                case rel => exact ⟨b + 1, by omega, by go_num, below_drewN HBQ.out _⟩
                case measure => simp [intOf]; omega
end Go.Proofs.YtggkohkngockoaaDoor

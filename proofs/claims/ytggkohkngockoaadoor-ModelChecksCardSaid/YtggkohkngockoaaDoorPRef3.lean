/-
  catchboltref20.clash: does a transaction that is committed now clash? No conditions.
-/
import Derived.Test.YtggkohkngockoaaDoorPRef2
namespace Go.Proofs.YtggkohkngockoaaDoor
open Go.ChangeShapes Go.WideShapes Go.ChangeAt Go.RowKit Go.Maps
set_option linter.unusedVariables false
set_option linter.unusedSimpArgs false


theorem clashR_yes {l : List Ev} {t : Int} {i k : Nat} (hi : i < l.length) (hk : k < l.length) (h : clashAt l t i k = true) : clashR l t = true := by
  unfold clashR
  rw [List.any_eq_true]
  refine ⟨i, List.mem_range.2 hi, ?_⟩
  rw [List.any_eq_true]
  exact ⟨k, List.mem_range.2 hk, h⟩
theorem clashR_no {l : List Ev} {t : Int} (h : ∀ i, i < l.length → ∀ k, k < l.length → clashAt l t i k = false) : clashR l t = false := by
  unfold clashR
  rw [List.any_eq_false]
  intro i hi
  rw [Bool.not_eq_true, List.any_eq_false]
  intro k hk
  rw [Bool.not_eq_true]
  exact h i (List.mem_range.1 hi) k (List.mem_range.1 hk)

set_option maxRecDepth 100000 in
set_option maxHeartbeats 8000000 in
theorem rclash_any (A : Option Addr) (n cp : Nat) (es : List Ev) (t : Int) (w : World) (hr : RdE w A es) (hl : es.length = n) (hn : n ≤ 1000) :
    Calls Tryd.prog 31 #[.slice A n cp, .int .i64 t] w fun e w' => e = .returned (.bool (clashR es t)) ∧ Below w.heap.size w w' := by
  have HR := Lib.hid hr
  have HL := Lib.hid hl
  clear hr hl
  go_enter Tryd.func31, Tryd.ntmps31
  go_wp2
  go_loopw [5] (fun i wr => ∃ k : Nat, k ≤ n ∧ i = .int .i64 k ∧ Below w.heap.size w wr ∧ ∀ q, q < k → ∀ p, p < n → clashAt es t q p = false) (fun i _ => n - (intOf i).toNat)
  case atStart => exact ⟨0, Nat.zero_le _, rfl, Below.refl _ _, fun q hq => absurd hq (Nat.not_lt_zero _)⟩
  case round =>
    obtain ⟨k, hk, rfl, hbr, hno⟩ := hrel
    have HBR := Lib.hid hbr
    have HNO := Lib.hid hno
    clear hno hbr
    obtain ⟨wo, rfl⟩ : ∃ W, W = wr := ⟨_, rfl⟩
    by_cases hlt : k < n
    · have hlt' : (k : Int) < n := by omega
      go_wp2
      go_loopw [6] (fun i wx => ∃ j : Nat, j ≤ n ∧ i = .int .i64 j ∧ Below wo.heap.size wo wx ∧ ∀ q, q < j → clashAt es t k q = false) (fun i _ => n - (intOf i).toNat)
      case atStart => exact ⟨0, Nat.zero_le _, rfl, Below.refl _ _, fun q hq => absurd hq (Nat.not_lt_zero _)⟩
      case round =>
        obtain ⟨j, hj, rfl, hbx, hnj⟩ := hrel
        have HBX := Lib.hid hbx
        have HNJ := Lib.hid hnj
        have HRX := Lib.hid (HR.out.below (HBR.out.trans (hbx.mono HBR.out.size)) (Nat.le_refl _))
        clear hnj hbx
        by_cases hlm : j < n
        · have hlm' : (j : Int) < n := by omega
          obtain ⟨ge, oe, hA, hc⟩ := HRX.out
          obtain ⟨rfl, lge⟩ := hA (by rw [HL.out]; omega)
          have hkl : k < es.length := by rw [HL.out]; exact hlt
          have hkm : j < es.length := by rw [HL.out]; exact hlm
          obtain ⟨p0, p1, p2, p3, p4, p5, p6⟩ := hc k hkl
          obtain ⟨q0, q1, q2, q3, q4, q5, q6⟩ := hc j hkm
          have HKL := Lib.hid hkl
          have HKM := Lib.hid hkm
          clear hA hc hkl hkm
          obtain ⟨E, hE⟩ : ∃ E, es.getD k Ev.none = E := ⟨_, rfl⟩
          obtain ⟨E2, hE2⟩ : ∃ E, es.getD j Ev.none = E := ⟨_, rfl⟩
          have HE := Lib.hid hE
          have HE2 := Lib.hid hE2
          rw [hE] at p0 p1 p2 p3 p4 p5 p6
          rw [hE2] at q0 q1 q2 q3 q4 q5 q6
          clear hE hE2
          obtain ⟨ek, ec, ex, et, er, em, eq⟩ := E
          obtain ⟨fk, fc, fx, ft, fr, fm, fq⟩ := E2
          simp only at p0 p1 p2 p3 p4 p5 p6 q0 q1 q2 q3 q4 q5 q6
          have HTG := Lib.hid (fun W => rtog_any em fm W)
          by_cases h1 : ek = 3
          · subst h1
            by_cases h2 : fk = 3
            · subst h2
              by_cases h3 : ex = t
              · subst h3
                by_cases h4 : fx = ex
                · subst h4
                  have h4b : (fx == fx) = true := by simp
                  have HCF : Hid (clashAt es fx k j = false) := Lib.hid (by unfold clashAt; rw [HE.out, HE2.out]; simp)
                  go_wp2_with fail
                  go_quiet ((go_at_call 16; exact Calls.quiet_of_same ((HTG.out _).mono (fun _ _ h => ⟨h.1, h.2.symm⟩))))
                  go_wp2
                  go_roundw
                  case rel => exact ⟨j + 1, by omega, by go_num, below_drewN HBX.out _, fun q hq => by
                    rcases Nat.lt_or_ge q j with h1 | h1
                    · exact HNJ.out q h1
                    · rw [show q = j by omega]; exact HCF.out⟩
                  case measure => simp [intOf]; omega
                · have h4b : (fx == ex) = false := by simpa using h4
                  by_cases h5 : et = ft
                  · subst h5
                    by_cases h6 : er = fr
                    · subst h6
                      cases htg : togB em fm with
                      | true =>
                        have HCF : Hid (clashAt es ex k j = false) := Lib.hid (by unfold clashAt; rw [HE.out, HE2.out]; simp [htg])
                        rw [htg] at HTG
                        clear htg h4
                        go_wp2_with fail
                        go_quiet ((go_at_call 16; exact Calls.quiet_of_same ((HTG.out _).mono (fun _ _ h => ⟨h.1, h.2.symm⟩))))
                        go_wp2
                        go_roundw
                        case rel => exact ⟨j + 1, by omega, by go_num, below_drewN HBX.out _, fun q hq => by
                          rcases Nat.lt_or_ge q j with h1 | h1
                          · exact HNJ.out q h1
                          · rw [show q = j by omega]; exact HCF.out⟩
                        case measure => simp [intOf]; omega
                      | false =>
                        have HT := Lib.hid htg
                        have H4 := Lib.hid h4
                        rw [htg] at HTG
                        clear htg h4
                        go_wp2_with fail
                        go_quiet ((go_at_call 16; exact Calls.quiet_of_same ((HTG.out _).mono (fun _ _ h => ⟨h.1, h.2.symm⟩))))
                        generalize hwq : World.drewN wr nq = wq
                        have hbq : Below wo.heap.size wo wq := by rw [← hwq]; exact below_drewN HBX.out _
                        have q2' : wq.cell? ⟨ge, oe + j * 7 + 2, none⟩ = some (.int .i64 fx) := by rw [← hwq]; exact q2
                        have HBQ := Lib.hid hbq
                        have HRQ := Lib.hid (HR.out.below (HBR.out.trans (hbq.mono HBR.out.size)) (Nat.le_refl _))
                        have HEN := Lib.hid (end_any (some ⟨ge, oe, none⟩) n cp es fx wq HRQ.out HL.out hn)
                        obtain ⟨z, hz⟩ : ∃ z, endR es fx = z := ⟨_, rfl⟩
                        rw [hz] at HEN
                        have HZ := Lib.hid hz
                        clear hwq hbq hz p0 p1 p2 p3 p4 p5 p6 q0 q1 q2 q3 q4 q5 q6
                        by_cases h7 : z < n
                        · have h7' : (z : Int) < n := by omega
                          by_cases h8 : k < z
                          · have h8' : (k : Int) < z := by omega
                            have HY : Hid (clashR es ex = true) := Lib.hid (clashR_yes HKL.out HKM.out (by unfold clashAt; rw [HE.out, HE2.out]; simp [HT.out, H4.out, HZ.out, HL.out, h7, h8]))
                            go_wp2_with (go_at_call 46; refine HEN.out.mono ?_; rintro e w' ⟨rfl, rfl⟩)
                            go_ret
                            exact ⟨by rw [HY.out]; rfl, HBR.out.trans (HBQ.out.mono HBR.out.size)⟩
                          · have h8' : ¬ (k : Int) < z := by omega
                            have HCF : Hid (clashAt es ex k j = false) := Lib.hid (by unfold clashAt; rw [HE.out, HE2.out]; simp [HZ.out]; omega)
                            go_wp2_with (go_at_call 46; refine HEN.out.mono ?_; rintro e w' ⟨rfl, rfl⟩)
                            go_roundw
                            case rel => exact ⟨j + 1, by omega, by go_num, HBQ.out, fun q hq => by
                              rcases Nat.lt_or_ge q j with h1 | h1
                              · exact HNJ.out q h1
                              · rw [show q = j by omega]; exact HCF.out⟩
                            case measure => simp [intOf]; omega
                        · have h7' : ¬ (z : Int) < n := by omega
                          have h7b : decide ((z : Int) < n) = false := by simp; omega
                          have HCF : Hid (clashAt es ex k j = false) := Lib.hid (by unfold clashAt; rw [HE.out, HE2.out]; simp [HZ.out, HL.out]; omega)
                          go_wp2_with (go_at_call 46; refine HEN.out.mono ?_; rintro e w' ⟨rfl, rfl⟩)
                          go_roundw
                          case rel => exact ⟨j + 1, by omega, by go_num, HBQ.out, fun q hq => by
                            rcases Nat.lt_or_ge q j with h1 | h1
                            · exact HNJ.out q h1
                            · rw [show q = j by omega]; exact HCF.out⟩
                          case measure => simp [intOf]; omega
                    · have h6b : (er == fr) = false := by simpa using h6
                      have h6c : (er != fr) = true := by simpa using h6
                      have HCF : Hid (clashAt es ex k j = false) := Lib.hid (by unfold clashAt; rw [HE.out, HE2.out]; simp [h6])
                      clear h6 h4
                      go_wp2_with fail
                      go_quiet ((go_at_call 16; exact Calls.quiet_of_same ((HTG.out _).mono (fun _ _ h => ⟨h.1, h.2.symm⟩))))
                      go_wp2
                      go_roundw
                      case rel => exact ⟨j + 1, by omega, by go_num, below_drewN HBX.out _, fun q hq => by
                        rcases Nat.lt_or_ge q j with h1 | h1
                        · exact HNJ.out q h1
                        · rw [show q = j by omega]; exact HCF.out⟩
                      case measure => simp [intOf]; omega
                  · have h5b : (et == ft) = false := by simpa using h5
                    have h5c : (et != ft) = true := by simpa using h5
                    have HCF : Hid (clashAt es ex k j = false) := Lib.hid (by unfold clashAt; rw [HE.out, HE2.out]; simp [h5])
                    clear h5 h4
                    go_wp2_with fail
                    go_quiet ((go_at_call 16; exact Calls.quiet_of_same ((HTG.out _).mono (fun _ _ h => ⟨h.1, h.2.symm⟩))))
                    go_wp2
                    go_roundw
                    case rel => exact ⟨j + 1, by omega, by go_num, below_drewN HBX.out _, fun q hq => by
                      rcases Nat.lt_or_ge q j with h1 | h1
                      · exact HNJ.out q h1
                      · rw [show q = j by omega]; exact HCF.out⟩
                    case measure => simp [intOf]; omega
              · have h3b : (ex == t) = false := by simpa using h3
                have h3c : (ex != t) = true := by simpa using h3
                have HCF : Hid (clashAt es t k j = false) := Lib.hid (by unfold clashAt; rw [HE.out, HE2.out]; simp [h3])
                clear h3
                go_wp2_with fail
                go_quiet ((go_at_call 16; exact Calls.quiet_of_same ((HTG.out _).mono (fun _ _ h => ⟨h.1, h.2.symm⟩))))
                go_wp2
                go_roundw
                case rel => exact ⟨j + 1, by omega, by go_num, below_drewN HBX.out _, fun q hq => by
                  rcases Nat.lt_or_ge q j with h1 | h1
                  · exact HNJ.out q h1
                  · rw [show q = j by omega]; exact HCF.out⟩
                case measure => simp [intOf]; omega
            · have h2b : (fk == 3) = false := by simpa using h2
              have h2c : (fk != 3) = true := by simpa using h2
              have HCF : Hid (clashAt es t k j = false) := Lib.hid (by unfold clashAt; rw [HE.out, HE2.out]; simp [h2])
              clear h2
              go_wp2_with fail
              go_quiet ((go_at_call 16; exact Calls.quiet_of_same ((HTG.out _).mono (fun _ _ h => ⟨h.1, h.2.symm⟩))))
              go_wp2
              go_roundw
              case rel => exact ⟨j + 1, by omega, by go_num, below_drewN HBX.out _, fun q hq => by
                rcases Nat.lt_or_ge q j with h1 | h1
                · exact HNJ.out q h1
                · rw [show q = j by omega]; exact HCF.out⟩
              case measure => simp [intOf]; omega
          · have h1b : (ek == 3) = false := by simpa using h1
            have h1c : (ek != 3) = true := by simpa using h1
            have HCF : Hid (clashAt es t k j = false) := Lib.hid (by unfold clashAt; rw [HE.out, HE2.out]; simp [h1])
            clear h1
            go_wp2_with fail
            go_quiet ((go_at_call 16; exact Calls.quiet_of_same ((HTG.out _).mono (fun _ _ h => ⟨h.1, h.2.symm⟩))))
            go_wp2
            go_roundw
            case rel => exact ⟨j + 1, by omega, by go_num, below_drewN HBX.out _, fun q hq => by
              rcases Nat.lt_or_ge q j with h1 | h1
              · exact HNJ.out q h1
              · rw [show q = j by omega]; exact HCF.out⟩
            case measure => simp [intOf]; omega
        · have hjn : j = n := by omega
          subst hjn
          have hge : ¬ (j : Int) < j := by omega
          go_wp2
          go_roundw
          case rel => exact ⟨k + 1, by omega, by go_num, HBR.out.trans (HBX.out.mono HBR.out.size), fun q hq p hp => by
            rcases Nat.lt_or_ge q k with h1 | h1
            · exact HNO.out q h1 p hp
            · rw [show q = k by omega]; exact HNJ.out p hp⟩
          case measure => simp [intOf]; omega
    · have hkn : k = n := by omega
      subst hkn
      have hge : ¬ (k : Int) < k := by omega
      have HN : Hid (clashR es t = false) := Lib.hid (clashR_no (fun i hi p hp => HNO.out i (by rw [HL.out] at hi; exact hi) p (by rw [HL.out] at hp; exact hp)))
      go_wp2
      go_ret
      exact ⟨by rw [HN.out]; rfl, HBR.out⟩
end Go.Proofs.YtggkohkngockoaaDoor

/-
  catchboltlaw20.ModelBegins: each beginning of a trace that may be may be, and what is told at a place is told whatever comes behind. The condition: errors.errorType reads as the program's text lays it.
-/
import Derived.Test.YtggkohkngockoaaDoorPAlive2
namespace Go.Proofs.YtggkohkngockoaaDoor
open Go.ChangeShapes Go.WideShapes Go.ChangeAt Go.RowKit Go.Maps
set_option linter.unusedVariables false
set_option linter.unusedSimpArgs false

theorem check_some (A : Option Addr) (n cp : Nat) (es : List Ev) (w : World) (hr : RdE w A es) (hl : es.length = n) (hn : n ≤ 1000) :
    Calls Tryd.prog 8 #[.slice A n cp] w fun e w' => (∃ v, e = .returned v) ∧ Below w.heap.size w w' := by
  rcases ok_or es with ho | ⟨p, k, ho⟩
  · exact (check_good A n cp es w hr hl hn ho).mono fun e w' h => ⟨⟨_, h.1⟩, h.2⟩
  · exact (check_bad A n cp es w hr hl hn ho).mono fun e w' h => ⟨⟨_, h.1.choose_spec.1⟩, h.2⟩

set_option maxRecDepth 100000 in
set_option maxHeartbeats 4000000 in
theorem begins_true (A B : Option Addr) (n cp m cq : Nat) (es ms : List Ev) (a : Int) (w : World) (hE : ErrT w) (hr : RdE w A es) (hm : RdE w B ms) (hl : es.length = n) (hlm : ms.length = m) (hcp : n ≤ cp) (ha : 0 ≤ a ∧ a < 256) :
    Calls Tryd.prog 4 #[.slice A n cp, .int .u8 a, .slice B m cq] w fun e w' => e = .returned (.bool true) ∧ Below w.heap.size w w' := by
  have HE := Lib.hid hE
  have HR := Lib.hid hr
  have HM := Lib.hid hm
  have HL := Lib.hid hl
  have HLM := Lib.hid hlm
  have HCP := Lib.hid hcp
  have HAL := Lib.hid (alive_true w hE)
  obtain ⟨a0, a1⟩ := ha
  have haw : IntKind.i64.wrap a = a := IntWalk.i64_in _ (by omega)
  clear hE hr hm hl hlm hcp
  go_enter Tryd.func4, Tryd.ntmps4
  by_cases h60 : n ≤ 60
  · have h60' : ¬ 60 < (n : Int) := by omega
    by_cases m60 : m ≤ 60
    · have m60' : ¬ 60 < (m : Int) := by omega
      go_wp2_with fail
      refine HAL.out.mono ?_
      rintro e w1 ⟨rfl, hb1⟩
      have HB1 := Lib.hid hb1
      have HRT := Lib.hid (right_any A n cp es w1 (HE.out.below hb1) (HR.out.below hb1 (Nat.le_refl _)) HL.out HCP.out (by omega))
      clear hb1
      go_wp2_with fail
      refine HRT.out.mono ?_
      rintro e w2 ⟨rfl, hb2⟩
      have HB2 := Lib.hid (HB1.out.trans (hb2.mono HB1.out.size))
      have HLR := Lib.hid (right_le es)
      obtain ⟨R, hR⟩ : ∃ R, (rightF es).length = R := ⟨_, rfl⟩
      rw [hR] at HLR
      have HRR := Lib.hid hR
      have hRn : R ≤ n := by have := HLR.out; have := HL.out; omega
      clear hb2 HRT
      rw [hR]
      clear hR
      have hR60 : R ≤ 60 := by omega
      obtain ⟨K, hK⟩ := Int.eq_ofNat_of_zero_le (show 0 ≤ a % ((R : Int) + 1) from Int.emod_nonneg _ (by omega))
      have hK2 : K ≤ R := by have := Int.emod_lt_of_pos a (show 0 < (R : Int) + 1 by omega); omega
      have hKt : a.tmod ((R : Int) + 1) = K := by rw [Int.tmod_eq_emod_of_nonneg (by omega), hK]
      have hKc : (K : Int) ≤ cp := by have := HCP.out; omega
      have hnz : ¬ (R : Int) + 1 = 0 := by omega
      have HC1 := Lib.hid (check_good A R cp (rightF es) w2 (right_rd (HR.out.below HB2.out (Nat.le_refl _))) HRR.out (by omega) (right_ok es))
      go_wp2_with fail
      refine HC1.out.mono ?_
      rintro e w3 ⟨rfl, hb3⟩
      have HB3 := Lib.hid (HB2.out.trans (hb3.mono HB2.out.size))
      have HC2 := Lib.hid (check_good A K cp ((rightF es).take K) w3 ((right_rd (HR.out.below HB3.out (Nat.le_refl _))).take K) (by rw [List.length_take, HRR.out]; omega) (by omega) (ok_take (right_ok es) K))
      clear hb3 HC1
      go_wp2_with fail
      refine HC2.out.mono ?_
      rintro e w4 ⟨rfl, hb4⟩
      have HB4 := Lib.hid (HB3.out.trans (hb4.mono HB3.out.size))
      clear hb4 HC2 hK hKt hnz hKc hK2
      rcases ok_or es with ho | ⟨p, k, ho⟩
      · have HC := Lib.hid (check_good A n cp es w4 (HR.out.below HB4.out (Nat.le_refl _)) HL.out (by omega) ho)
        clear ho
        go_wp2_with fail
        refine HC.out.mono ?_
        rintro e w5 ⟨rfl, hb5⟩
        have HB5 := Lib.hid (HB4.out.trans (hb5.mono HB4.out.size))
        clear hb5 HC
        have HRx := Lib.hid (HR.out.below HB5.out (Nat.le_refl _))
        have HMx := Lib.hid (HM.out.below HB5.out (Nat.le_refl _))
        have hsW := HB5.out.size
        go_wp2_with (first
          | (at_builtin; refine wpList_append_evs rfl _ _ rfl rfl w5.heap.size (.slice (some ⟨w5.heap.size, 0, none⟩) 0 0) 0 [] rfl (own_empty_ev w5 _ (Nat.le_refl _) _) A n cp es rfl HL.out (HRx.out.below ((Below.refl _ _).alloc (Nat.le_refl _) _ : Below w5.heap.size w5 _) (Nat.le_refl _)) (by simp) (by omega) ?_; intro v6 w6 hown6 hgrow6; rw [Nat.zero_add, List.nil_append] at hown6; have HO6 := Lib.hid hown6; have HG6 := Lib.hid (show Below w5.heap.size w5 w6 from ((Below.refl _ _).alloc (Nat.le_refl _) _ : Below w5.heap.size w5 _).grown hgrow6 (by simp) (fun k hk => by simp [Value.ownBlock] at hk; omega)); clear hown6 hgrow6)
          | (at_builtin; refine wpList_append_evs rfl _ _ rfl rfl w5.heap.size v6 n es rfl HO6.out B m cq ms rfl HLM.out (HMx.out.below HG6.out (Nat.le_refl _)) HG6.out.size (by omega) ?_; intro v7 w7 hown7 hgrow7; obtain ⟨hl7, A7, c7, rfl, _, hr7⟩ := rde_of_own hown7; have HR7 := Lib.hid hr7; have HL7 := Lib.hid hl7; have HG7 := Lib.hid (show Below w5.heap.size w5 w7 from HG6.out.grown hgrow7 HG6.out.size (fun k hk => (HO6.out.lt k hk).1)); clear hown7 hgrow7 hr7 hl7))
        refine (check_some A7 (n + m) c7 (es ++ ms) w7 HR7.out HL7.out (by omega)).mono ?_
        rintro e w8 ⟨⟨v, rfl⟩, hb8⟩
        have HB8 := Lib.hid (HG7.out.trans (hb8.mono HG7.out.size))
        clear hb8
        go_wp2
        go_ret
        exact ⟨rfl, HB5.out.trans (HB8.out.mono HB5.out.size)⟩
      · have HC := Lib.hid (check_bad A n cp es w4 (HR.out.below HB4.out (Nat.le_refl _)) HL.out (by omega) ho)
        have HO2 := Lib.hid (play_bad ms ho)
        clear ho
        go_wp2_with fail
        refine HC.out.mono ?_
        rintro e w5 ⟨⟨b5, rfl, hF5⟩, hb5⟩
        have HF5 := Lib.hid hF5
        have HB5 := Lib.hid (HB4.out.trans (hb5.mono HB4.out.size))
        clear hb5 HC hF5
        have HRx := Lib.hid (HR.out.below HB5.out (Nat.le_refl _))
        have HMx := Lib.hid (HM.out.below HB5.out (Nat.le_refl _))
        have hsW := HB5.out.size
        go_wp2_with (first
          | (at_builtin; refine wpList_append_evs rfl _ _ rfl rfl w5.heap.size (.slice (some ⟨w5.heap.size, 0, none⟩) 0 0) 0 [] rfl (own_empty_ev w5 _ (Nat.le_refl _) _) A n cp es rfl HL.out (HRx.out.below ((Below.refl _ _).alloc (Nat.le_refl _) _ : Below w5.heap.size w5 _) (Nat.le_refl _)) (by simp) (by omega) ?_; intro v6 w6 hown6 hgrow6; rw [Nat.zero_add, List.nil_append] at hown6; have HO6 := Lib.hid hown6; have HG6 := Lib.hid (show Below w5.heap.size w5 w6 from ((Below.refl _ _).alloc (Nat.le_refl _) _ : Below w5.heap.size w5 _).grown hgrow6 (by simp) (fun k hk => by simp [Value.ownBlock] at hk; omega)); clear hown6 hgrow6)
          | (at_builtin; refine wpList_append_evs rfl _ _ rfl rfl w5.heap.size v6 n es rfl HO6.out B m cq ms rfl HLM.out (HMx.out.below HG6.out (Nat.le_refl _)) HG6.out.size (by omega) ?_; intro v7 w7 hown7 hgrow7; obtain ⟨hl7, A7, c7, rfl, _, hr7⟩ := rde_of_own hown7; have HR7 := Lib.hid hr7; have HL7 := Lib.hid hl7; have HG7 := Lib.hid (show Below w5.heap.size w5 w7 from HG6.out.grown hgrow7 HG6.out.size (fun k hk => (HO6.out.lt k hk).1)); clear hown7 hgrow7 hr7 hl7))
        refine (check_bad A7 (n + m) c7 (es ++ ms) w7 HR7.out HL7.out (by omega) HO2.out).mono ?_
        rintro e w8 ⟨⟨b8, rfl, hF8⟩, hb8⟩
        have HF8 := Lib.hid hF8
        have HB8 := Lib.hid (HG7.out.trans (hb8.mono HG7.out.size))
        have HF58 := Lib.hid (HF5.out.below HB8.out)
        have HBT := Lib.hid (HB5.out.trans (HB8.out.mono HB5.out.size))
        have kk1 : (k == k) = true := by simp
        have pp1 : ((p : Int) == (p : Int)) = true := by simp
        clear hb8 hF8
        go_wp2_with fail
        refine (code_err _ k p w8 HF8.out.err).mono ?_
        rintro e w' ⟨rfl, rfl⟩
        go_wp2_with fail
        refine (code_err _ k p w8 HF58.out.err).mono ?_
        rintro e w' ⟨rfl, rfl⟩
        go_wp2_with fail
        refine (at_err _ k p w8 HF8.out.err (HE.out.below HBT.out)).mono ?_
        rintro e w9 ⟨rfl, hb9⟩
        have HF9 := Lib.hid (HF58.out.below hb9)
        have HB9 := Lib.hid (HBT.out.trans (hb9.mono HBT.out.size))
        clear hb9
        go_wp2_with fail
        refine (at_err _ k p w9 HF9.out.err (HE.out.below HB9.out)).mono ?_
        rintro e w10 ⟨rfl, hb10⟩
        go_wp2
        go_ret
        exact ⟨rfl, HB9.out.trans (hb10.mono HB9.out.size)⟩
    · have m60' : 60 < (m : Int) := by omega
      go_wp2_with fail
      refine HAL.out.mono ?_
      rintro e w1 ⟨rfl, hb1⟩
      go_wp2
      go_ret
      exact ⟨rfl, hb1⟩
  · have h60' : 60 < (n : Int) := by omega
    go_wp2_with fail
    refine HAL.out.mono ?_
    rintro e w1 ⟨rfl, hb1⟩
    go_wp2
    go_ret
    exact ⟨rfl, hb1⟩
end Go.Proofs.YtggkohkngockoaaDoor

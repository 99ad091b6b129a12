/-
  catchboltref02.goes: may a text go on to a resource's text? No other conditions.
-/
import Derived.Test.YtonphamahnagfaaDoorResB
import Derived.Test.YtonphamahnagfaaDoorResG
namespace Go.Proofs.YtonphamahnagfaaDoor
open Go.ChangeShapes Go.WideShapes Go.ChangeAt Go.RowKit
set_option linter.unusedVariables false

theorem goesL_yes {p : List UInt8} {k : Nat} (hk : k < 250) (h : goT p (k + 1) = true) : goesL p = true := by
  unfold goesL; rw [List.any_eq_true]; exact ⟨k, List.mem_range.2 hk, h⟩
theorem goesL_no {p : List UInt8} (h : ∀ t, t < 250 → goT p (t + 1) = false) : goesL p = false := by
  unfold goesL
  rw [List.any_eq_false]
  intro t ht
  rw [h t (List.mem_range.1 ht)]; decide

theorem ext_take (a : ByteArray) (n : Nat) : (a.extract 0 n).toList = a.data.toList.take n := by
  rw [ByteArray.toList_eq]; simp
theorem ext_drop (a : ByteArray) (n : Nat) : (a.extract n a.size).toList = a.data.toList.drop n := by
  rw [ByteArray.toList_eq]; simp
  exact List.take_of_length_le (by simp)
theorem ext_drop_data (a : ByteArray) (n : Nat) : (a.extract n a.size).data.toList = a.data.toList.drop n := by
  rw [← ByteArray.toList_eq, ext_drop]
theorem beq_iff {a b : List UInt8} : (a == b) = true ↔ a = b := by simp
theorem beq_no {a b : List UInt8} (h : (a == b) = false) : a ≠ b := by simpa using h

set_option maxRecDepth 100000 in
set_option maxHeartbeats 1000000 in
theorem goes_any (s : ByteArray) (w : World) (hs : s.size ≤ 1000000) :
    Calls Tryd.prog 26 #[.string s] w fun e w' => e = .returned (.bool (goesL s.data.toList)) ∧ Below w.heap.size w w' := by
  have hsz : s.data.toList.length = s.size := by simp
  have HSZ := Lib.hid hsz
  clear hsz
  go_enter Tryd.func26, Tryd.ntmps26
  go_wp2
  go_loopw [3] (fun i wr => Below w.heap.size w wr ∧ ∃ k : Nat, k ≤ 250 ∧ i = .int .i64 (k + 1) ∧ ∀ t, t < k → goT s.data.toList (t + 1) = false) (fun i _ => 252 - (intOf i).toNat)
  case atStart => exact ⟨Below.refl _ _, 0, by omega, rfl, fun t h => by omega⟩
  case round =>
    obtain ⟨hbr, k, hk, rfl, hno⟩ := hrel
    have HNO := Lib.hid hno
    have hsr := hbr.size
    clear hno
    by_cases hlt : k < 250
    · have hlt' : (k : Int) + 1 < 251 := by omega
      have hk1 : ((k : Int) + 1) = ((k + 1 : Nat) : Int) := by omega
      rw [hk1] at hlt' ⊢
      have HD := Lib.hid (fun W => digits_any (k + 1) W (by omega))
      have hal : (digs (k + 1)).size ≤ 3 := digs_size _
      have hat : (digs (k + 1)).data.toList = digL (k + 1) := by simp [digs]
      have HAT := Lib.hid hat
      clear hat hk1
      generalize hK : k + 1 = K at *
      have HK := Lib.hid hK
      clear hK
      generalize digs K = a at *
      go_wp2_with fail
      refine (HD.out _).mono ?_
      rintro e w5 ⟨rfl, hb5⟩
      have hb5' : Below w.heap.size w w5 := hbr.trans (hb5.mono hsr)
      have hasz : a.size = (digL K).length := by rw [← HAT.out]; simp
      have hGT : goT s.data.toList K = if s.size ≤ a.size then decide ((digL K).take s.size = s.data.toList)
          else decide (s.data.toList.take a.size = digL K) && decide (s.data.toList[a.size]? = some 46) && (List.range 250).any fun r => goN (s.data.toList.drop (a.size + 1)) (r + 1) := by
        unfold goT; rw [HSZ.out, hasz]
      have HGT := Lib.hid hGT
      clear hGT hasz
      by_cases hle : s.size ≤ a.size
      · have hle' : (s.size : Int) ≤ a.size := by omega
        rcases hq : ((a.extract 0 s.size).toList == s.toList) with _ | _
        · have HG := Lib.hid (show goT s.data.toList K = false by
            rw [HGT.out, if_pos hle, ← HAT.out, ← ext_take, ← ByteArray.toList_eq]
            exact decide_eq_false (beq_no hq))
          go_wp2
          refine ⟨⟨hb5', k + 1, by omega, by have := HK.out; congr 1; omega, fun t ht => ?_⟩, by have := HK.out; simp [intOf]; omega⟩
          rcases Nat.lt_or_ge t k with h | h
          · exact HNO.out t h
          · rw [show t + 1 = K by have := HK.out; omega]; exact HG.out
        · have HG := Lib.hid (show goT s.data.toList K = true by
            rw [HGT.out, if_pos hle, ← HAT.out, ← ext_take, ← ByteArray.toList_eq]
            exact decide_eq_true (beq_iff.1 hq))
          have HY := Lib.hid (goesL_yes (k := k) hlt (by rw [HK.out]; exact HG.out))
          go_wp2
          go_ret
          rw [HY.out]
          exact ⟨rfl, hb5'⟩
      · have hle' : ¬ (s.size : Int) ≤ a.size := by omega
        rcases hq : ((s.extract 0 a.size).toList == a.toList) with _ | _
        · have HG := Lib.hid (show goT s.data.toList K = false by
            rw [HGT.out, if_neg hle, decide_eq_false]
            · rfl
            · rw [← HAT.out, ← ext_take, ← ByteArray.toList_eq]; exact beq_no hq)
          go_wp2
          refine ⟨⟨hb5', k + 1, by omega, by have := HK.out; congr 1; omega, fun t ht => ?_⟩, by have := HK.out; simp [intOf]; omega⟩
          rcases Nat.lt_or_ge t k with h | h
          · exact HNO.out t h
          · rw [show t + 1 = K by have := HK.out; omega]; exact HG.out
        · have ht : s.data.toList.take a.size = digL K := by
            rw [← HAT.out, ← ext_take, ← ByteArray.toList_eq]; exact beq_iff.1 hq
          have hal' : a.size < s.size := by omega
          obtain ⟨c, hc⟩ : ∃ c, s[a.size] = c := ⟨_, rfl⟩
          have hget : s.data.toList[a.size]? = some c := by
            rw [List.getElem?_eq_getElem (by rw [HSZ.out]; exact hal'), ← hc]; simp; rfl
          by_cases hc46 : c = 46
          · subst hc46
            have HGR := Lib.hid (show goT s.data.toList K = (List.range 250).any fun r => goN (s.data.toList.drop (a.size + 1)) (r + 1) by
              rw [HGT.out, if_neg hle, decide_eq_true ht, decide_eq_true hget]; rfl)
            clear hget ht
            obtain ⟨kk, hkk⟩ : ∃ kk, s.extract (a.size + 1) s.size = kk := ⟨_, rfl⟩
            have HKK := Lib.hid (show kk.data.toList = s.data.toList.drop (a.size + 1) by rw [← hkk]; exact ext_drop_data _ _)
            have hkl : kk.data.toList.length = kk.size := by simp
            have HKL := Lib.hid hkl
            have hks : kk.size ≤ 1000000 := by rw [← hkl, HKK.out]; simp; omega
            clear hkl
            go_wp2
            go_loopw [5] (fun i wz => Below w.heap.size w wz ∧ ∃ j : Nat, j ≤ 250 ∧ i = .int .i64 (j + 1) ∧ ∀ r, r < j → goN kk.data.toList (r + 1) = false) (fun i _ => 252 - (intOf i).toNat)
            case atStart => exact ⟨hb5', 0, by omega, rfl, fun t h => by omega⟩
            case round =>
              obtain ⟨hbz, j, hj, rfl, hnr⟩ := hrel
              have HNR := Lib.hid hnr
              have hsz := hbz.size
              clear hnr
              by_cases hlj : j < 250
              · have hlj' : (j : Int) + 1 < 251 := by omega
                have hj1 : ((j : Int) + 1) = ((j + 1 : Nat) : Int) := by omega
                rw [hj1] at hlj' ⊢
                have HD2 := Lib.hid (fun W => digits_any (j + 1) W (by omega))
                have hbl : (digs (j + 1)).size ≤ 3 := digs_size _
                have HBT := Lib.hid (show (digs (j + 1)).data.toList = digL (j + 1) by simp [digs])
                clear hj1
                generalize hJ : j + 1 = J at *
                have HJ := Lib.hid hJ
                clear hJ
                generalize digs J = b at *
                have hbsz : b.size = (digL J).length := by rw [← HBT.out]; simp
                have hGN : goN kk.data.toList J = (decide (kk.size ≤ b.size) && decide (b.data.toList.take kk.size = kk.data.toList)) := by
                  unfold goN; rw [HKL.out, hbsz, HBT.out]
                have HGN := Lib.hid hGN
                clear hGN hbsz
                go_wp2_with fail
                refine (HD2.out _).mono ?_
                rintro e w6 ⟨rfl, hb6⟩
                have hb6' : Below w.heap.size w w6 := hbz.trans (hb6.mono hsz)
                by_cases hkb : kk.size ≤ b.size
                · have hkb' : (kk.size : Int) ≤ b.size := by omega
                  rcases hq2 : ((b.extract 0 kk.size).toList == kk.toList) with _ | _
                  · have HG := Lib.hid (show goN kk.data.toList J = false by
                      rw [HGN.out, decide_eq_true hkb, decide_eq_false]
                      · rfl
                      · rw [← ext_take, ← ByteArray.toList_eq]; exact beq_no hq2)
                    go_wp2
                    refine ⟨⟨hb6', j + 1, by omega, by have := HJ.out; congr 1; omega, fun t ht => ?_⟩, by have := HJ.out; simp [intOf]; omega⟩
                    rcases Nat.lt_or_ge t j with h | h
                    · exact HNR.out t h
                    · rw [show t + 1 = J by have := HJ.out; omega]; exact HG.out
                  · have hG : goN kk.data.toList J = true := by
                      rw [HGN.out, decide_eq_true hkb, decide_eq_true]
                      · rfl
                      · rw [← ext_take, ← ByteArray.toList_eq]; exact beq_iff.1 hq2
                    have HY := Lib.hid (goesL_yes (k := k) hlt (by
                      rw [HK.out, HGR.out, List.any_eq_true]
                      exact ⟨j, List.mem_range.2 hlj, by rw [HJ.out, ← HKK.out]; exact hG⟩))
                    clear hG
                    go_wp2
                    go_ret
                    rw [HY.out]
                    exact ⟨rfl, hb6'⟩
                · have hkb' : ¬ (kk.size : Int) ≤ b.size := by omega
                  have HG := Lib.hid (show goN kk.data.toList J = false by rw [HGN.out, decide_eq_false hkb]; rfl)
                  go_wp2
                  refine ⟨⟨hb6', j + 1, by omega, by have := HJ.out; congr 1; omega, fun t ht => ?_⟩, by have := HJ.out; simp [intOf]; omega⟩
                  rcases Nat.lt_or_ge t j with h | h
                  · exact HNR.out t h
                  · rw [show t + 1 = J by have := HJ.out; omega]; exact HG.out
              · have hj2 : j = 250 := by omega
                subst hj2
                have HG := Lib.hid (show goT s.data.toList K = false by
                  rw [HGR.out, List.any_eq_false]
                  intro r hr
                  rw [← HKK.out, HNR.out r (List.mem_range.1 hr)]; decide)
                have hb5' := hbz
                go_wp2
                refine ⟨⟨hb5', k + 1, by omega, by have := HK.out; congr 1; omega, fun t ht => ?_⟩, by have := HK.out; simp [intOf]; omega⟩
                rcases Nat.lt_or_ge t k with h | h
                · exact HNO.out t h
                · rw [show t + 1 = K by have := HK.out; omega]; exact HG.out
          · have HG := Lib.hid (show goT s.data.toList K = false by
              rw [HGT.out, if_neg hle, hget, decide_eq_true ht, decide_eq_false (by simp [hc46])]; rfl)
            have hcc : ((c.toNat : Int) != 46) = true := by
              have : c.toNat ≠ 46 := fun h => hc46 (by have := UInt8.ofNat_toNat (x := c); rw [h] at this; exact this.symm)
              simp; omega
            clear hget ht
            go_wp2
            refine ⟨⟨hb5', k + 1, by omega, by have := HK.out; congr 1; omega, fun t ht => ?_⟩, by have := HK.out; simp [intOf]; omega⟩
            rcases Nat.lt_or_ge t k with h | h
            · exact HNO.out t h
            · rw [show t + 1 = K by have := HK.out; omega]; exact HG.out
    · have hk2 : k = 250 := by omega
      subst hk2
      have HN := Lib.hid (goesL_no HNO.out)
      go_wp2
      go_ret
      rw [HN.out]
      exact ⟨rfl, hbr⟩
end Go.Proofs.YtonphamahnagfaaDoor

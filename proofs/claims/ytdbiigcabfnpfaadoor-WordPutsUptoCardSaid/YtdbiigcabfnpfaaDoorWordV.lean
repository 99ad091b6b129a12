/-
  catchboltlaw03.WordPuts: the bytes of any numbers in any width, behind any bytes, or the error and its place, are the document's. The condition: the lengths leave room.
-/
import Derived.Test.YtdbiigcabfnpfaaDoorWordS
namespace Go.Proofs.YtdbiigcabfnpfaaDoor
open Go.ChangeShapes Go.WideShapes Go.ChangeAt Go.RowKit
set_option linter.unusedVariables false

set_option maxRecDepth 100000 in
set_option maxHeartbeats 2000000 in
theorem puts_true (A L : Option Addr) (n c m cm : Nat) (zb zl : List Int) (width : Int) (w : World) (hE : ErrT w) (hl : zb.length = n) (h : RdN .u8 w A zb) (hm : zl.length = m) (hL : RdN .i64 w L zl)
    (hbig : n + 4 * m ≤ 140737488355328) (hwf : (Lit.int .i64 width).wf = true) :
    Calls Tryd.prog 3 #[.slice A n c, .int .i64 width, .slice L m cm] w fun e w' => e = .returned (.bool true) ∧ Below w.heap.size w w' := by
  have HA := Lib.hid (alive_true w hE)
  have HE := Lib.hid hE
  have HL := Lib.hid hl
  have HM := Lib.hid hm
  have HR := Lib.hid h
  have HRL := Lib.hid hL
  have HW := Lib.hid hwf
  clear hE hl hm h hL hwf
  go_enter Tryd.func3, Tryd.ntmps3
  go_wp2_with fail
  refine HA.out.mono ?_
  rintro e w1 ⟨rfl, hb1⟩
  have hs1 := hb1.size
  have hbB : Below w.heap.size w (w1.alloc (.cells #[] 5)) := hb1.alloc hs1 _
  have hR1 := HR.out.below hbB
  have hO1 := own_empty w1 5 1
  have hsB : w1.heap.size ≤ (w1.alloc (.cells #[] 5)).heap.size := by simp
  go_wp2_with (at_builtin; refine wpList_append_nums rfl _ _ rfl rfl Tryd.underlying22 u8_info (by decide) w1.heap.size _ 0 [] rfl hO1 A n c zb rfl HL.out hR1 hsB (by omega) ?_; intro v2 w2 hown2 hg2)
  rw [Nat.zero_add] at hown2
  have hb2 : Below w.heap.size w w2 := hbB.grown hg2 hbB.size (fun k hk => by have := (hO1.lt k hk).1; omega)
  obtain ⟨hlo, A2, c2, rfl, hc2, hm2, hR2, hB2⟩ := rdn_of_own hown2
  have HP := Lib.hid (put_any A2 L n c2 m cm zb zl width w2 HL.out hR2 HM.out (HRL.out.below hb2) hbig HW.out)
  clear hR2 hlo hown2 hO1 hR1 hg2 hbB hB2
  go_wp2_with fail
  refine HP.out.mono ?_
  rintro e w3 ⟨⟨A3, n3, c3, ev, rfl, hR3, hl3, hc3, hm3, _, hE3⟩, hb3⟩
  have hs2 := hb2.size
  have hb3' : Below w.heap.size w w3 := hb2.trans (hb3.mono hs2)
  have HQ := Lib.hid (rput_any A L n c m cm zb zl width w3 HL.out (HR.out.below hb3') HM.out (HRL.out.below hb3') hbig HW.out)
  have hS : (putS width zb zl).1.length ≤ 140737488355328 := by
    unfold putS
    have e1 := HL.out
    have e2 := HM.out
    split
    · simp
    · split
      · simp
      · rename_i h1 _
        have hw : width.toNat ≤ 4 := by
          have := okW_iff.1 (show okW width = true by simpa using h1)
          omega
        have := Nat.mul_le_mul_right zl.length hw
        simp only [List.length_append, putB_length]
        omega
  have HS := Lib.hid hS
  clear HP hS
  generalize putS width zb zl = S at *
  obtain ⟨out, code, place⟩ := S
  simp only at hR3 hl3 hE3 HQ HS
  subst hl3
  go_wp2_with fail
  refine HQ.out.mono ?_
  rintro e w4 ⟨⟨A4, ⟨c4, rfl⟩, hR4⟩, hb4⟩
  have hs3 := hb3'.size
  have hb4' : Below w.heap.size w w4 := hb3'.trans (hb4.mono hs3)
  have HSm := Lib.hid (same_any A3 A4 out.length c3 c4 out w4 rfl (hR3.below hb4) hR4 HS.out)
  have HE4 := Lib.hid (hE3.below hb4)
  clear hE3 hR3 hR4 HQ
  go_wp2_with fail
  refine HSm.out.mono ?_
  rintro e w5 ⟨rfl, hb5⟩
  have hs4 := hb4'.size
  have hb5' : Below w.heap.size w w5 := hb4'.trans (hb5.mono hs4)
  have HE5 := Lib.hid (HE4.out.below hb5)
  go_wp2_with (go_at_call 11; refine (code_err _ _ _ _ HE5.out).mono ?_; rintro e w' ⟨rfl, rfl⟩)
  refine (at_err _ _ _ _ HE5.out (HE.out.below hb5')).mono ?_
  rintro e w6 ⟨rfl, hb6⟩
  have hb6' := hb5'.trans (hb6.mono hb5'.size)
  go_wp2
  go_ret
  exact ⟨rfl, hb6'⟩
end Go.Proofs.YtdbiigcabfnpfaaDoor

/-
  catchboltlaw03.WordBack: what was put is taken, what is taken is put again. The condition: the lengths leave room.
-/
import Derived.Test.YtdbiigcabfnpfaaDoorWordG
namespace Go.Proofs.YtdbiigcabfnpfaaDoor
open Go.ChangeShapes Go.WideShapes Go.ChangeAt Go.RowKit
set_option linter.unusedVariables false


theorem RdN.take {k : IntKind} {w : World} {A : Option Addr} {zs : List Int} (h : RdN k w A zs) (m : Nat) : RdN k w A (zs.take m) := rdn_take h m

set_option maxRecDepth 100000 in
set_option maxHeartbeats 600000 in
theorem back_true (L B : Option Addr) (m cm n c : Nat) (zl zb : List Int) (a : Int) (w : World) (hE : ErrT w) (ha : 0 ≤ a ∧ a < 256) (hm : zl.length = m) (hL : RdN .i64 w L zl) (hl : zb.length = n) (h : RdN .u8 w B zb) (hrb : ∀ x ∈ zb, 0 ≤ x ∧ x < 256)
    (hnc : n ≤ c) (hbig : 4 * m ≤ 140737488355328) (hbig2 : 8 * n ≤ 140737488355328) :
    Calls Tryd.prog 4 #[.int .u8 a, .slice L m cm, .slice B n c] w fun e w' => e = .returned (.bool true) ∧ Below w.heap.size w w' := by
  have HA := Lib.hid (alive_true w hE)
  have HB0 := Lib.hid hl
  have HM := Lib.hid hm
  have HRB := Lib.hid h
  have HRL := Lib.hid hL
  obtain ⟨W, hW⟩ := Int.eq_ofNat_of_zero_le (show 0 ≤ 1 + a % 4 by omega)
  have h1 : 1 ≤ W := by omega
  have h4 : W ≤ 4 := by omega
  obtain ⟨ha0, ha1⟩ := ha
  clear hE hl hm h hL
  go_enter Tryd.func4, Tryd.ntmps4
  go_wp2_with fail
  refine HA.out.mono ?_
  rintro e w1 ⟨rfl, hb1⟩
  have hs1 := hb1.size
  have hwfW : (Lit.int .i64 (W : Int)).wf = true := WalkArith.wf_i64 ⟨by omega, by omega⟩
  have HPT := Lib.hid (put_any none L 0 0 m cm [] zl W w1 rfl (rdn_nil _ _ _) HM.out (HRL.out.below hb1) (by omega) hwfW)
  have HWF := Lib.hid hwfW
  clear hwfW
  go_wp2_with fail
  clear hW
  refine HPT.out.mono ?_
  rintro e w2 ⟨⟨A2, n2, c2, ev, rfl, hR2, hl2, hc2, _, _, hE2⟩, hb2⟩
  have hb2' : Below w.heap.size w w2 := hb1.trans (hb2.mono hs1)
  clear HPT
  have hs2 := hb2'.size
  by_cases hf : firstBad W zl < m
  · have hS := putS_no (width := (W : Int)) (zb := []) (zl := zl) (okW_nat h1 h4) (by rw [Int.toNat_natCast, HM.out]; exact hf)
    rw [hS] at hE2
    obtain ⟨T2, u2, rfl⟩ := err_some hE2 (by simp)
    clear hS hE2 hR2 hl2 hf
    have hsQ := hb2'.size
    have HNB := Lib.hid (new_any B n c zb w2 HB0.out (HRB.out.below hb2') (by omega))
    go_wp2_with fail
    refine HNB.out.mono ?_
    rintro e w7 ⟨⟨g7, A7, c7, rfl, hR7⟩, hb7⟩
    have hb7' : Below w.heap.size w w7 := (hb2').trans (hb7.mono hsQ)
    have hs7 := hb7'.size
    have hg7 := hR7.lt
    have hA7 : 0 < n → ∀ q o, A7 = some ⟨q, o, none⟩ → q < w7.heap.size := fun hn q o e => by
      obtain ⟨q', o', h1, _⟩ := hR7.rd
      have h2 := h1 (by rw [HB0.out]; exact hn)
      rw [e] at h2
      obtain ⟨h3, h4⟩ := h2
      cases h3; exact h4
    have HA7 := Lib.hid hA7
    have hlo7 := hR7.lo
    have hB7 : w.heap.size ≤ g7 := by omega
    clear HNB hA7
    go_wp2
    go_loopw [15, 16] (fun al i wr => Below w.heap.size w wr ∧ w7.heap.size ≤ wr.heap.size ∧ ∃ (k p : Nat), i = .int .i64 p ∧ p = W * k ∧ p ≤ n ∧ Rdr wr w2.heap.size g7 A7 n c7 zb p ∧ wr.ownsRow w7.heap.size 3 1 al k (numV .i64 (nums W zb k))) (fun _ i _ => (n + 5) - (intOf i).toNat)
    case atStart => exact ⟨hb7', Nat.le_refl _, 0, 0, rfl, by simp, by omega, hR7, World.ownsRow_nil _ _ _ _⟩
    case round =>
      obtain ⟨hbr, hs7r, k, p, rfl, hp, hpn, hRr, hOr⟩ := hrel
      have HP := Lib.hid hp
      clear hp
      have hsr := hbr.size
      by_cases hlt : p + W ≤ n
      · have hlt' : (p : Int) + W ≤ n := by omega
        have hkl : W * k + W ≤ zb.length := by rw [HB0.out, ← HP.out]; exact hlt
        obtain ⟨hT, hP⟩ := take_group (zb := zb) h1 h4 hkl
        have hk : W * (k + 1) ≤ zb.length := by rw [Nat.mul_succ]; exact hkl
        have hTK := take_any _ _ _ _ _ _ p W wr hRr hrb (WalkArith.wf_i64 ⟨by omega, by omega⟩)
        rw [HP.out, hT, hP] at hTK
        rw [← HP.out] at hTK
        have HTK := Lib.hid hTK
        have hnk : W * (k + 1) = p + W := by rw [Nat.mul_succ, ← HP.out]
        have HNK := Lib.hid hnk
        have hkn : k + 1 ≤ n := by
          have h := Nat.mul_le_mul_right k h1
          rw [Nat.one_mul, ← HP.out] at h
          omega
        clear hTK hT hP hkl hk hnk
        have hNU : nums W zb (k + 1) = nums W zb k ++ [num 0 ((zb.drop (W * k)).take W)] := rfl
        rw [← HP.out] at hNU
        have HNU := Lib.hid hNU
        clear hNU
        generalize num 0 ((zb.drop p).take W) = x at *
        have HOr := Lib.hid hOr
        have hlog := hRr.lo
        have hltg := hRr.lt
        clear hOr hRr
        go_wp2_with fail
        refine HTK.out.mono ?_
        rintro e w8 ⟨⟨ev, rfl, hE8, hR8⟩, hg8⟩
        obtain ⟨rfl, _⟩ := err_nil hE8
        have hb8 : Below w.heap.size w w8 := Below.grown hbr hg8 hsr (fun q e => by cases e; exact hB7)
        have hO8 := HOr.out.kept hg8 (.inr fun e => by have := (HOr.out.lt _ e).1; omega)
        have hs8 := hb8.size
        rw [HNK.out] at hR8
        have hs78 : w7.heap.size ≤ w8.heap.size := Nat.le_trans hs7r hg8.size
        have HR8 := Lib.hid hR8
        have hb9 : Below w.heap.size w (w8.alloc (.cells #[.int .i64 x] 3)) := hb8.alloc hs8 _
        have hO9 := hO8.alloc (.cells #[.int .i64 x] 3)
        have hR9 := Lib.hid (hR8.below ((Below.refl _ _).alloc (Nat.le_refl _) (.cells #[.int .i64 x] 3)))
        have hs9 : w7.heap.size ≤ (w8.alloc (.cells #[.int .i64 x] 3)).heap.size := by simp; omega
        clear hE8 hR8 hO8
        go_wp2_with (at_builtin; refine wpList_append_nums rfl _ _ rfl rfl Tryd.underlying23 i64_info (by decide) w7.heap.size _ _ _ rfl hO9 _ 1 1 _ rfl rfl (rdn_one .i64 _ _ _) hs9 (by omega) ?_; intro v10 w10 hown10 hg10)
        have hR10 := hR9.out.grown hg10 (fun e => by have := (HOr.out.lt _ e).1; omega) (fun q o e e' => by have := (HOr.out.lt _ e').1; have := HA7.out (by omega) q o e; omega)
        have hb10 : Below w.heap.size w w10 := hb9.grown hg10 hb9.size (fun q hq => by have := (HOr.out.lt _ hq).1; omega)
        have hs10 : w7.heap.size ≤ w10.heap.size := Nat.le_trans hs9 hg10.size
        refine ⟨⟨hb10, hs10, k + 1, p + W, by simp, HNK.out.symm, by omega, hR10, ?_⟩, by simp [intOf]; omega⟩
        rw [HNU.out, numV_append]; exact hown10
      · have hge : ¬ ((p : Int) + W ≤ n) := by omega
        have hk : W * k ≤ zb.length := by rw [HB0.out, ← HP.out]; exact hpn
        have hkn : k ≤ n := by
          have h := Nat.mul_le_mul_right k h1
          rw [Nat.one_mul, ← HP.out] at h
          omega
        obtain ⟨hlo, A8, c8, rfl, hc8, hm8, hR8, hB8⟩ := rdn_of_own hOr
        have hPT := put_any none A8 0 0 k c8 [] (nums W zb k) W wr rfl (rdn_nil _ _ _) hlo hR8 (by omega) (WalkArith.wf_i64 ⟨by omega, by omega⟩)
        rw [put_nums h1 h4 hrb hk, ← HP.out] at hPT
        have HPT := Lib.hid hPT
        have hTL : (zb.take p).length = p := by rw [List.length_take, HB0.out]; omega
        have HTL := Lib.hid hTL
        have HRr := Lib.hid hRr
        clear hPT hRr hR8 hlo hk hOr hTL
        go_wp2_with fail
        refine HPT.out.mono ?_
        rintro e w9 ⟨⟨A9, n9, c9, ev, rfl, hR9, hl9, hc9, _, _, hE9⟩, hb9⟩
        obtain ⟨rfl, _⟩ := err_nil hE9
        rw [HTL.out] at hl9
        subst hl9
        have hb9' : Below w.heap.size w w9 := hbr.trans (hb9.mono hsr)
        have hRr9 := HRr.out.below hb9
        have HLF := Lib.hid (left_any _ _ _ _ _ _ _ _ hRr9)
        have hs9 := hb9'.size
        clear hE9 hRr9
        go_wp2_with fail
        refine HLF.out.mono ?_
        rintro e w10 ⟨rfl, hb10⟩
        have e1 : (n : Int) - ((n : Int) - p) = p := by omega
        have e2 : n - (n - p) = p := by omega
        have e3 : (p : Int) ≤ c := by omega
        have hb10' : Below w.heap.size w w10 := hb9'.trans (hb10.mono hs9)
        have HSM := Lib.hid (same_any A9 B p c9 c (zb.take p) w10 HTL.out (hR9.below hb10) ((HRB.out.below hb10').take p) (by omega))
        go_wp2_with fail
        refine HSM.out.mono ?_
        rintro e w11 ⟨rfl, hb11⟩
        have hb11' : Below w.heap.size w w11 := hb10'.trans (hb11.mono hb10'.size)
        go_wp2
        go_ret
        exact ⟨rfl, hb11'⟩
  · have hfm : firstBad W zl = m := by
      have := firstBad_le W zl
      rw [HM.out] at this
      omega
    have hall : ∀ x ∈ zl, inW W x = true := fun x hx => by
      obtain ⟨i, hi, rfl⟩ := List.getElem_of_mem hx
      have := firstBad_ok (W := W) (l := zl) (i := i) (by rw [hfm, ← HM.out]; exact hi)
      rwa [List.getD_eq_getElem?_getD, List.getElem?_eq_getElem hi] at this
    have hS := putS_ok (width := (W : Int)) (zb := []) (zl := zl) (okW_nat h1 h4) (by rw [Int.toNat_natCast, HM.out]; exact hf)
    rw [Int.toNat_natCast, List.nil_append] at hS
    rw [hS] at hE2 hR2 hl2
    obtain ⟨rfl, _⟩ := err_nil hE2
    simp only at hR2 hl2
    have hWm : W * m ≤ 4 * m := Nat.mul_le_mul_right m h4
    have hn2 : n2 = W * m := by rw [← hl2, putB_length, HM.out]
    have HPR := Lib.hid (putB_range W zl)
    have HALL := Lib.hid hall
    have HN2 := Lib.hid hn2
    have HNP := Lib.hid (new_any A2 n2 c2 (putB W zl) w2 hl2 hR2 (by omega))
    have HTP := Lib.hid (fun j (hj : j < m) => take_put h1 h4 HM.out hj hall)
    have hn2b : n2 ≤ 140737488355328 := by omega
    clear hS hE2 hf hfm hall hR2 hl2 hWm hn2
    generalize putB W zl = P at *
    go_wp2_with fail
    refine HNP.out.mono ?_
    rintro e w3 ⟨⟨g, A3, c3, rfl, hR3⟩, hb3⟩
    have hb3' : Below w.heap.size w w3 := hb2'.trans (hb3.mono hs2)
    have hlo3 := hR3.lo
    have hBg : w.heap.size ≤ g := by omega
    clear HNP
    go_wp2
    go_loopw [11] (fun i wr => Below w.heap.size w wr ∧ ∃ (j p : Nat), i = .int .i64 j ∧ p = W * j ∧ j ≤ m ∧ Rdr wr w2.heap.size g A3 n2 c3 P p) (fun i _ => m - (intOf i).toNat)
    case atStart => exact ⟨hb3', 0, 0, rfl, by simp, by omega, hR3⟩
    case round =>
      obtain ⟨hbr, j, p, rfl, hp, hjm, hRr⟩ := hrel
      have HP := Lib.hid hp
      clear hp
      have hsr := hbr.size
      by_cases hlt : j < m
      · have hlt' : (j : Int) < m := by omega
        obtain ⟨hT, hP⟩ := HTP.out j hlt
        have hTK := take_any _ _ _ _ _ _ p W wr hRr HPR.out HWF.out
        rw [HP.out, hT, hP] at hTK
        have HTK := Lib.hid hTK
        obtain ⟨q, off, hQ, hc⟩ := HRL.out
        obtain ⟨rfl, hq⟩ := hQ (by rw [HM.out]; omega)
        have cw := hc j (by rw [HM.out]; omega)
        clear hTK hT hP hc hQ hRr
        generalize zl.getD j 0 = z at *
        go_wp2_with fail
        refine HTK.out.mono ?_
        rintro e w4 ⟨⟨ev, rfl, hE4, hR4⟩, hg4⟩
        obtain ⟨rfl, _⟩ := err_nil hE4
        have hb4 : Below w.heap.size w w4 := Below.grown hbr hg4 hsr (fun q e => by cases e; exact hBg)
        have c4 := (hb4.cell (p := ⟨q, _, none⟩) hq).trans cw
        have HR4 := Lib.hid hR4
        have hzz : (z != z) = false := by simp
        clear hE4 hR4
        go_wp2
        exact ⟨⟨hb4, j + 1, W * (j + 1), by simp, rfl, by omega, HR4.out⟩, by simp [intOf]; omega⟩
      · have hjm' : j = m := by omega
        subst hjm'
        have hge : ¬ (j : Int) < j := by omega
        have HLF := left_any _ _ _ _ _ _ _ _ hRr
        rw [show ((n2 : Int) - p) = 0 by rw [HN2.out, HP.out]; omega] at HLF
        have HLF := Lib.hid HLF
        clear hRr
        go_wp2_with fail
        refine HLF.out.mono ?_
        rintro e w5 ⟨rfl, hb5⟩
        have hb5' : Below w.heap.size w w5 := hbr.trans (hb5.mono hsr)
        clear HLF hR3 hb3' hb3 HTP
        have hsQ := hb5'.size
        have HNB := Lib.hid (new_any B n c zb w5 HB0.out (HRB.out.below hb5') (by omega))
        go_wp2_with fail
        refine HNB.out.mono ?_
        rintro e w7 ⟨⟨g7, A7, c7, rfl, hR7⟩, hb7⟩
        have hb7' : Below w.heap.size w w7 := (hb5').trans (hb7.mono hsQ)
        have hs7 := hb7'.size
        have hg7 := hR7.lt
        have hA7 : 0 < n → ∀ q o, A7 = some ⟨q, o, none⟩ → q < w7.heap.size := fun hn q o e => by
          obtain ⟨q', o', h1, _⟩ := hR7.rd
          have h2 := h1 (by rw [HB0.out]; exact hn)
          rw [e] at h2
          obtain ⟨h3, h4⟩ := h2
          cases h3; exact h4
        have HA7 := Lib.hid hA7
        have hlo7 := hR7.lo
        have hB7 : w.heap.size ≤ g7 := by omega
        clear HNB hA7
        go_wp2
        go_loopw [15, 16] (fun al i wr => Below w.heap.size w wr ∧ w7.heap.size ≤ wr.heap.size ∧ ∃ (k p : Nat), i = .int .i64 p ∧ p = W * k ∧ p ≤ n ∧ Rdr wr w5.heap.size g7 A7 n c7 zb p ∧ wr.ownsRow w7.heap.size 3 1 al k (numV .i64 (nums W zb k))) (fun _ i _ => (n + 5) - (intOf i).toNat)
        case atStart => exact ⟨hb7', Nat.le_refl _, 0, 0, rfl, by simp, by omega, hR7, World.ownsRow_nil _ _ _ _⟩
        case round =>
          obtain ⟨hbr, hs7r, k, p, rfl, hp, hpn, hRr, hOr⟩ := hrel
          have HP := Lib.hid hp
          clear hp
          have hsr := hbr.size
          by_cases hlt : p + W ≤ n
          · have hlt' : (p : Int) + W ≤ n := by omega
            have hkl : W * k + W ≤ zb.length := by rw [HB0.out, ← HP.out]; exact hlt
            obtain ⟨hT, hP⟩ := take_group (zb := zb) h1 h4 hkl
            have hk : W * (k + 1) ≤ zb.length := by rw [Nat.mul_succ]; exact hkl
            have hTK := take_any _ _ _ _ _ _ p W wr hRr hrb (WalkArith.wf_i64 ⟨by omega, by omega⟩)
            rw [HP.out, hT, hP] at hTK
            rw [← HP.out] at hTK
            have HTK := Lib.hid hTK
            have hnk : W * (k + 1) = p + W := by rw [Nat.mul_succ, ← HP.out]
            have HNK := Lib.hid hnk
            have hkn : k + 1 ≤ n := by
              have h := Nat.mul_le_mul_right k h1
              rw [Nat.one_mul, ← HP.out] at h
              omega
            clear hTK hT hP hkl hk hnk
            have hNU : nums W zb (k + 1) = nums W zb k ++ [num 0 ((zb.drop (W * k)).take W)] := rfl
            rw [← HP.out] at hNU
            have HNU := Lib.hid hNU
            clear hNU
            generalize num 0 ((zb.drop p).take W) = x at *
            have HOr := Lib.hid hOr
            have hlog := hRr.lo
            have hltg := hRr.lt
            clear hOr hRr
            go_wp2_with fail
            refine HTK.out.mono ?_
            rintro e w8 ⟨⟨ev, rfl, hE8, hR8⟩, hg8⟩
            obtain ⟨rfl, _⟩ := err_nil hE8
            have hb8 : Below w.heap.size w w8 := Below.grown hbr hg8 hsr (fun q e => by cases e; exact hB7)
            have hO8 := HOr.out.kept hg8 (.inr fun e => by have := (HOr.out.lt _ e).1; omega)
            have hs8 := hb8.size
            rw [HNK.out] at hR8
            have hs78 : w7.heap.size ≤ w8.heap.size := Nat.le_trans hs7r hg8.size
            have HR8 := Lib.hid hR8
            have hb9 : Below w.heap.size w (w8.alloc (.cells #[.int .i64 x] 3)) := hb8.alloc hs8 _
            have hO9 := hO8.alloc (.cells #[.int .i64 x] 3)
            have hR9 := Lib.hid (hR8.below ((Below.refl _ _).alloc (Nat.le_refl _) (.cells #[.int .i64 x] 3)))
            have hs9 : w7.heap.size ≤ (w8.alloc (.cells #[.int .i64 x] 3)).heap.size := by simp; omega
            clear hE8 hR8 hO8
            go_wp2_with (at_builtin; refine wpList_append_nums rfl _ _ rfl rfl Tryd.underlying23 i64_info (by decide) w7.heap.size _ _ _ rfl hO9 _ 1 1 _ rfl rfl (rdn_one .i64 _ _ _) hs9 (by omega) ?_; intro v10 w10 hown10 hg10)
            have hR10 := hR9.out.grown hg10 (fun e => by have := (HOr.out.lt _ e).1; omega) (fun q o e e' => by have := (HOr.out.lt _ e').1; have := HA7.out (by omega) q o e; omega)
            have hb10 : Below w.heap.size w w10 := hb9.grown hg10 hb9.size (fun q hq => by have := (HOr.out.lt _ hq).1; omega)
            have hs10 : w7.heap.size ≤ w10.heap.size := Nat.le_trans hs9 hg10.size
            refine ⟨⟨hb10, hs10, k + 1, p + W, by simp, HNK.out.symm, by omega, hR10, ?_⟩, by simp [intOf]; omega⟩
            rw [HNU.out, numV_append]; exact hown10
          · have hge : ¬ ((p : Int) + W ≤ n) := by omega
            have hk : W * k ≤ zb.length := by rw [HB0.out, ← HP.out]; exact hpn
            have hkn : k ≤ n := by
              have h := Nat.mul_le_mul_right k h1
              rw [Nat.one_mul, ← HP.out] at h
              omega
            obtain ⟨hlo, A8, c8, rfl, hc8, hm8, hR8, hB8⟩ := rdn_of_own hOr
            have hPT := put_any none A8 0 0 k c8 [] (nums W zb k) W wr rfl (rdn_nil _ _ _) hlo hR8 (by omega) (WalkArith.wf_i64 ⟨by omega, by omega⟩)
            rw [put_nums h1 h4 hrb hk, ← HP.out] at hPT
            have HPT := Lib.hid hPT
            have hTL : (zb.take p).length = p := by rw [List.length_take, HB0.out]; omega
            have HTL := Lib.hid hTL
            have HRr := Lib.hid hRr
            clear hPT hRr hR8 hlo hk hOr hTL
            go_wp2_with fail
            refine HPT.out.mono ?_
            rintro e w9 ⟨⟨A9, n9, c9, ev, rfl, hR9, hl9, hc9, _, _, hE9⟩, hb9⟩
            obtain ⟨rfl, _⟩ := err_nil hE9
            rw [HTL.out] at hl9
            subst hl9
            have hb9' : Below w.heap.size w w9 := hbr.trans (hb9.mono hsr)
            have hRr9 := HRr.out.below hb9
            have HLF := Lib.hid (left_any _ _ _ _ _ _ _ _ hRr9)
            have hs9 := hb9'.size
            clear hE9 hRr9
            go_wp2_with fail
            refine HLF.out.mono ?_
            rintro e w10 ⟨rfl, hb10⟩
            have e1 : (n : Int) - ((n : Int) - p) = p := by omega
            have e2 : n - (n - p) = p := by omega
            have e3 : (p : Int) ≤ c := by omega
            have hb10' : Below w.heap.size w w10 := hb9'.trans (hb10.mono hs9)
            have HSM := Lib.hid (same_any A9 B p c9 c (zb.take p) w10 HTL.out (hR9.below hb10) ((HRB.out.below hb10').take p) (by omega))
            go_wp2_with fail
            refine HSM.out.mono ?_
            rintro e w11 ⟨rfl, hb11⟩
            have hb11' : Below w.heap.size w w11 := hb10'.trans (hb11.mono hb10'.size)
            go_wp2
            go_ret
            exact ⟨rfl, hb11'⟩
end Go.Proofs.YtdbiigcabfnpfaaDoor

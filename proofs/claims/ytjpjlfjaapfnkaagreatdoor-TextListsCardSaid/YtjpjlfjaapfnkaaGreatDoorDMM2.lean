/-
  text.parse; lines, plain. No conditions beyond those that each theorem states.
-/
import Derived.Test.YtjpjlfjaapfnkaaGreatDoorDMK2
import Derived.Test.YtjpjlfjaapfnkaaGreatDoorDMP
import Derived.WalkMore
set_option linter.unusedVariables false
set_option linter.unusedSimpArgs false
namespace Go.Proofs.YtjpjlfjaapfnkaaGreatDoor
open Go.ChangeShapes Go.WideShapes Go.ChangeAt Go.RowKit
open C20 (Ev formB evC)
theorem ent_info : (Tryz.prog.info? 33).map (fun i => (i.zero, i.size, i.bytes)) = some (some (.agg #[.int .i64 0, .int .i64 0, .int .i64 0, .int .i64 0, .int .i64 0, .int .i64 0]), 6, 48) := by kernel_rfl
theorem run_append_ents (B : Nat) (v : Value) (k : Nat) (xs : List Value) (w : World) (hown : w.ownsRow B 33 6 v k xs) (ad : Addr) (n c : Nat) (bs : List Ent) (hl : bs.length = n) (h : RdEo w (some ad) bs) (hB : B ≤ w.heap.size) (hk : k + n ≤ 1000000) :
 ∃ v' w', (Builtin.append_ #[60, 60] 60 #[v, .slice (some ad) n c]).run Tryz.prog w = .ok v' w' ∧ w'.ownsRow B 33 6 v' (k + n) (xs ++ flat bs) ∧ w.grownBy w' v.ownBlock := by
 obtain ⟨i0, hi0, hz0, hz1, hz2⟩ := info_parts ent_info
 obtain ⟨b, off, hA, hc⟩ := h
 obtain ⟨v', w', hrun, h2, h3, _⟩ := run_append_own (P := Tryz.prog) w B 60 60 33 i0 _ 6 48 Tryz.underlying60 hi0 hz0 hz1 hz2 rfl (by decide) v k xs hown ad n c (flat bs) (by rw [flat_length, hl])
  (fun j u hu => by
   have hj : j < n * 6 := by
    rcases Nat.lt_or_ge j (flat bs).length with h | h
    ·rw [flat_length, hl] at h; exact h
    ·rw [List.getElem?_eq_none h] at hu; cases hu
   have hq : j / 6 < bs.length := by omega
   have := (hA (by omega)).1
   cases this
   have e : (⟨b, off, none⟩ : Addr).add j = ⟨b, off + j, none⟩ := by unfold Addr.add; by_cases h : j = 0 <;> simp [h]
   have hg := flat_get bs (j / 6) (j % 6) hq (by omega)
   rw [show 6 * (j / 6) + j % 6 = j from by omega, hu] at hg
   obtain ⟨c0, c1, c2, c3, c4, c5⟩ := hc (j / 6) hq
   rw [e]
   have h4 : j % 6 = 0 ∨ j % 6 = 1 ∨ j % 6 = 2 ∨ j % 6 = 3 ∨ j % 6 = 4 ∨ j % 6 = 5 := by omega
   rcases h4 with h4 | h4 | h4 | h4 | h4 | h4 <;> rw [h4] at hg <;> rw [hg]
   ·rw [show off + j = off + j / 6 * 6 from by omega, c0]; rfl
   ·rw [show off + j = off + j / 6 * 6 + 1 from by omega, c1]; rfl
   ·rw [show off + j = off + j / 6 * 6 + 2 from by omega, c2]; rfl
   ·rw [show off + j = off + j / 6 * 6 + 3 from by omega, c3]; rfl
   ·rw [show off + j = off + j / 6 * 6 + 4 from by omega, c4]; rfl
   ·rw [show off + j = off + j / 6 * 6 + 5 from by omega, c5]; rfl)
  (by intro u hu; obtain ⟨x, _, hx⟩ := List.mem_flatMap.1 hu; exact cells_one x u hx) (by unfold maxLen; omega) (by omega) hB
 exact ⟨v', w', hrun, h2, h3⟩
theorem wpList_append_ents {ops : Array Oper} {rest : List Oper} {o : Oper} {a : Act} {Q : Exit → Act → World → Prop} {w : World} (hgd : o.guard = none) (s x : Operand)
 (ho : o.op = .call { callee := .builtin .append, args := #[s, x], argTypes := #[60, 60] }) (hty : o.type = 60)
 (B : Nat) (v : Value) (k : Nat) (xs : List Value) (hs : a.eval s = v) (hown : w.ownsRow B 33 6 v k xs) (ad : Addr) (n c : Nat) (bs : List Ent) (hl : bs.length = n) (hx : a.eval x = .slice (some ad) n c) (h : RdEo w (some ad) bs) (hB : B ≤ w.heap.size) (hk : k + n ≤ 1000000)
 (hc : ∀ v' w', w'.ownsRow B 33 6 v' (k + n) (xs ++ flat bs) → w.grownBy w' v.ownBlock → wpList Tryz.prog ops Q rest (a.put o.dst v') w') : wpList Tryz.prog ops Q (o :: rest) a w := by
 refine wpList_plain hgd fun K hK => ?_
 obtain ⟨v', w', hrun, h2, h3⟩ := run_append_ents B v k xs w hown ad n c bs hl h hB hk
 unfold Oper.wp execOp
 simp only [ho, hty, resolve, invoke, builtin, Sem.run_bind, Sem.run_pure, Result.andThen_ok, List.map_toArray, List.map_cons, List.map_nil, hs, hx, hrun]
 exact hK _ _ (hc v' w' h2 h3)
def PaIs {α : Type} (P : List UInt8 → Option α) (no : α) (T : TypeId) (sz : Nat) (vals : List α → List Value) (W w' : World) (e : Ending) (ws : List (List UInt8)) : Prop :=
 (∃ xs v, xs.length = ws.length - 1 ∧ ws.getD (ws.length - 1) [] = [] ∧ (∀ j, j < ws.length - 1 → P (ws.getD j []) = some (xs.getD j no)) ∧ e = .returned (.tuple #[v, .nilIface]) ∧ w'.ownsRow W.heap.size T sz v xs.length (vals xs)) ∨
 ∃ i b, i < ws.length ∧ (∀ j, j < i → ∃ x, P (ws.getD j []) = some x) ∧ (i + 1 < ws.length → P (ws.getD i []) = none) ∧ (i + 1 = ws.length → ws.getD i [] ≠ []) ∧
  e = .returned (.tuple #[.slice none 0 0, .iface 97 (.pointer (some ⟨b, 0, none⟩))]) ∧ w'.cell? ⟨b, 0, none⟩ = some (.int .i64 (i : Int)) ∧ w'.cell? ⟨b, 1, none⟩ = some (.iface 70 (.int .i64 5))
theorem getD_snoc {α : Type} (xs : List α) (x no : α) {k : Nat} (h : xs.length = k) : (xs ++ [x]).getD k no = x := by
 rw [List.getD_eq_getElem?_getD, List.getElem?_append_right (by omega), h]; simp
theorem getD_left {α : Type} (xs : List α) (x no : α) {j : Nat} (h : j < xs.length) : (xs ++ [x]).getD j no = xs.getD j no := by
 rw [List.getD_eq_getElem?_getD, List.getD_eq_getElem?_getD, List.getElem?_append_left h]
set_option maxRecDepth 100000 in
set_option maxHeartbeats 4000000 in
theorem parse_evs (A : Option Addr) (n c : Nat) (bs : List UInt8) (W : World) (hT : TxW W) (hG : 9 ≤ W.heap.size) (hr : RdN .u8 W A (bI bs)) (hl : bs.length = n) (hn : n ≤ 100000) :
 Calls Tryz.prog 65 #[.slice A n c, .func (.func 18) #[] #[]] W fun e w' => PaIs evP C20.Ev.none 44 7 C20.evV W w' e (spL 10 bs) ∧ Below W.heap.size W w' := by
 have hcv := conv_bI (c := c) hr hl
 have HSP := Lib.hid (split_any (bsA bs) 10 W hT (by rw [bs_size]; omega))
 rw [bsA_list] at HSP
 obtain ⟨m, hm⟩ : ∃ m, (spL 10 bs).length = m + 1 := by
  cases h : spL 10 bs with
  | nil => exact absurd h (sp_ne _ _)
  | cons a b => exact ⟨b.length, rfl⟩
 have hml : m ≤ 100000 := by have := sp_length 10 bs; omega
 have HLL0 := Lib.hid (show ∀ j, ((spL 10 bs).getD j []).length ≤ 100000 from fun j => by
  rw [List.getD_eq_getElem?_getD]
  cases h : (spL 10 bs)[j]? with
  | none => simp
  | some x => have := sp_word 10 bs x (List.mem_of_getElem? h); simp; omega)
 have HM := Lib.hid hm
 have HT := Lib.hid hT
 have HG := Lib.hid hG
 obtain ⟨ws, hws⟩ : ∃ ws, spL 10 bs = ws := ⟨_, rfl⟩
 rw [hws] at HSP HM HLL0 ⊢
 have hbS : Below W.heap.size W (W.alloc (.cells (strs ws) 9)) := (Below.refl _ _).alloc (Nat.le_refl _) _
 have HRS := Lib.hid (rds_block (W := W.alloc (.cells (strs ws) 9)) (g := W.heap.size) (T := 9) (fr := (0, 0)) (ws := ws) (by rw [heap_push, if_pos rfl]))
 have HBS := Lib.hid hbS
 clear hr hl hn hm hws hT hG hbS
 go_enter Tryz.func65, Tryz.ntmps65
 go_wp2_with fail
 refine HSP.out.mono ?_
 rintro e w1 ⟨rfl, rfl⟩
 rw [HM.out]
 obtain ⟨w1, hw1⟩ : ∃ X, W.alloc (.cells (strs ws) 9) = X := ⟨_, rfl⟩
 obtain ⟨gs, hgs⟩ : ∃ g, W.heap.size = g := ⟨_, rfl⟩
 have HGS := Lib.hid hgs
 rw [hw1] at HRS HBS ⊢
 rw [hgs] at HRS ⊢
 clear hw1 hgs HSP
 go_wp2
 go_loopw [8, 21] (fun vo i wr => ∃ k : Nat, k ≤ m ∧ i = .int .i64 k ∧ Below W.heap.size W wr ∧ Below w1.heap.size w1 wr ∧ ∃ xs : List Ev, xs.length = k ∧ (∀ j, j < k → evP (ws.getD j []) = some (xs.getD j C20.Ev.none)) ∧ wr.ownsRow w1.heap.size 44 7 vo k (C20.evV xs)) (fun _ i _ => m + 1 - (intOf i).toNat)
 case atStart => exact ⟨0, Nat.zero_le _, rfl, HBS.out, Below.refl _ _, [], rfl, fun j hj => by omega, ⟨rfl, .inl ⟨rfl, rfl⟩⟩⟩
 case round =>
  obtain ⟨k, hk, rfl, hbr, hbw, xs, hxl, hxs, how⟩ := hrel
  have HBR := Lib.hid hbr
  have HBW := Lib.hid hbw
  have HXS := Lib.hid hxs
  have HXL := Lib.hid hxl
  have HXS2 := Lib.hid (show ∀ j, j < k → ∃ x, evP (ws.getD j []) = some x from fun j hj => ⟨_, hxs j hj⟩)
  have HOW := Lib.hid how
  obtain ⟨gw, ow, hA, hc⟩ := HRS.out.below hbw
  obtain ⟨hAA, lgw⟩ := hA (by rw [HM.out]; omega)
  obtain ⟨rfl, rfl⟩ : gw = gs ∧ ow = 0 := by cases hAA; exact ⟨rfl, rfl⟩
  have hck := hc k (by rw [HM.out]; omega)
  rw [Nat.zero_add] at hck
  obtain ⟨L, hL⟩ : ∃ L, ws.getD k [] = L := ⟨_, rfl⟩
  have HL := Lib.hid hL
  have HLL := Lib.hid (show L.length ≤ 100000 from by rw [← hL]; exact HLL0.out k)
  rw [hL] at hck
  clear hxl hxs how hA hc hAA hL hbr hbw
  have hlt' : (k : Int) < (m : Int) + 1 := by omega
  have hltn : k < m + 1 := by omega
  by_cases hkm : k = m
  ·subst hkm
   by_cases hLe : L = []
   ·have hbe : (bsA L).toList.isEmpty = true := by rw [bs_list, hLe]; rfl
    have HLE := Lib.hid hLe
    clear hLe
    go_wp2
    go_ret2
    refine ⟨.inl ⟨xs, _, by rw [HM.out, HXL.out]; rfl, ?_, ?_, rfl, ?_⟩, HBR.out⟩
    ·rw [HM.out]; exact HL.out.trans HLE.out
    ·rw [HM.out]; exact HXS.out
    ·rw [HXL.out]; exact own_weaken HOW.out HBS.out.size
   ·have hbe : (bsA L).toList.isEmpty = false := by rw [bs_list]; cases L <;> simp_all
    have HLE := Lib.hid hLe
    have HK1 := Lib.hid (show ¬ k + 1 < ws.length from by rw [HM.out]; omega)
    clear hLe
    have HPE := Lib.hid (parse_event (bsA L) wr (HT.out.below HBR.out) (by rw [bs_size]; have := HLL.out; omega) (Nat.le_trans HG.out HBR.out.size))
    rw [bsA_list] at HPE
    go_wp2_with fail
    refine HPE.out.mono ?_
    rintro e w5 ⟨hE5, hb5⟩
    have hb5' := HBR.out.trans (hb5.mono HBR.out.size)
    cases hp : evP L with
    | some x =>
     rw [hp] at hE5
     obtain ⟨x0, x1, x2, x3, x4, x5, x6⟩ := x
     obtain rfl : e = .returned (.tuple #[.agg #[.int .i64 x0, .int .i64 x1, .int .i64 x2, .int .i64 x3, .int .i64 x4, .int .i64 x5, .int .i64 x6], .nilIface]) := hE5
     have HB6 := Lib.hid ((hb5'.alloc hb5'.size (.cells #[.int .i64 x0, .int .i64 x1, .int .i64 x2, .int .i64 x3, .int .i64 x4, .int .i64 x5, .int .i64 x6] 44)).alloc (hb5'.alloc hb5'.size (.cells #[.int .i64 x0, .int .i64 x1, .int .i64 x2, .int .i64 x3, .int .i64 x4, .int .i64 x5, .int .i64 x6] 44)).size (.cells #[.int .i64 (k : Int), .iface 70 (.int .i64 5)] 101))
     clear hp hb5 hb5'
     go_wp2
     go_ret2
     refine ⟨.inr ⟨k, w5.heap.size + 1, by rw [HM.out]; omega, HXS2.out, fun q => absurd q HK1.out, fun _ => by rw [HL.out] <;> exact HLE.out, rfl, by simp, by simp⟩, HB6.out⟩
    | none =>
     rw [hp] at hE5
     obtain rfl : e = .returned (.tuple #[.agg #[.int .i64 0, .int .i64 0, .int .i64 0, .int .i64 0, .int .i64 0, .int .i64 0, .int .i64 0], .iface 70 (.int .i64 5)]) := hE5
     have HB6 := Lib.hid ((hb5'.alloc hb5'.size (.cells #[.int .i64 0, .int .i64 0, .int .i64 0, .int .i64 0, .int .i64 0, .int .i64 0, .int .i64 0] 44)).alloc (hb5'.alloc hb5'.size (.cells #[.int .i64 0, .int .i64 0, .int .i64 0, .int .i64 0, .int .i64 0, .int .i64 0, .int .i64 0] 44)).size (.cells #[.int .i64 (k : Int), .iface 70 (.int .i64 5)] 101))
     clear hp hb5 hb5'
     go_wp2
     go_ret2
     refine ⟨.inr ⟨k, w5.heap.size + 1, by rw [HM.out]; omega, HXS2.out, fun q => absurd q HK1.out, fun _ => by rw [HL.out] <;> exact HLE.out, rfl, by simp, by simp⟩, HB6.out⟩
  ·have hkb : ((k : Int) == (m : Int)) = false := by simp; omega
   have HKM := Lib.hid hkm
   have HK2 := Lib.hid (show ¬ k + 1 = ws.length from by rw [HM.out]; omega)
   clear hkm
   have HPE := Lib.hid (parse_event (bsA L) wr (HT.out.below HBR.out) (by rw [bs_size]; have := HLL.out; omega) (Nat.le_trans HG.out HBR.out.size))
   rw [bsA_list] at HPE
   go_wp2_with fail
   refine HPE.out.mono ?_
   rintro e w5 ⟨hE5, hb5⟩
   have hb5' := HBR.out.trans (hb5.mono HBR.out.size)
   cases hp : evP L with
   | some x =>
    rw [hp] at hE5
    have HPX := Lib.hid hp
    obtain ⟨x0, x1, x2, x3, x4, x5, x6⟩ := x
    obtain rfl : e = .returned (.tuple #[.agg #[.int .i64 x0, .int .i64 x1, .int .i64 x2, .int .i64 x3, .int .i64 x4, .int .i64 x5, .int .i64 x6], .nilIface]) := hE5
    have how6 := ((own_below HOW.out hb5).alloc (.cells #[.int .i64 x0, .int .i64 x1, .int .i64 x2, .int .i64 x3, .int .i64 x4, .int .i64 x5, .int .i64 x6] 44)).alloc (.cells #[.int .i64 x0, .int .i64 x1, .int .i64 x2, .int .i64 x3, .int .i64 x4, .int .i64 x5, .int .i64 x6] 44)
    have hb6 : Below w5.heap.size w5 ((w5.alloc (.cells #[.int .i64 x0, .int .i64 x1, .int .i64 x2, .int .i64 x3, .int .i64 x4, .int .i64 x5, .int .i64 x6] 44)).alloc (.cells #[.int .i64 x0, .int .i64 x1, .int .i64 x2, .int .i64 x3, .int .i64 x4, .int .i64 x5, .int .i64 x6] 44)) := ((Below.refl _ _).alloc (Nat.le_refl _) _).alloc (by simp) _
    have HB6 := Lib.hid (hb5'.trans (hb6.mono hb5'.size))
    have hbw5 := HBW.out.trans (hb5.mono HBW.out.size)
    have HBW6 := Lib.hid (hbw5.trans (hb6.mono hbw5.size))
    have hkn : k + 1 ≤ 1000000 := by omega
    skip
    clear hp hb5 hb5' hb6 hbw5
    go_wp2_with (at_builtin; refine C20.wpList_append_evs rfl _ _ rfl rfl w1.heap.size _ k xs rfl how6 (some ⟨w5.heap.size + 1, 0, none⟩) 1 1 [⟨x0, x1, x2, x3, x4, x5, x6⟩] rfl rfl (C20.rde_of_block (cs := #[.int .i64 x0, .int .i64 x1, .int .i64 x2, .int .i64 x3, .int .i64 x4, .int .i64 x5, .int .i64 x6]) (T := 44) (fr := (0, 0)) (by rw [heap_push, if_pos (by simp)]) rfl) HBW6.out.size hkn ?_; intro v7 w7 hown7 hg7; have HB7 := Lib.hid (Below.grown HB6.out hg7 HB6.out.size (fun q hq => Nat.le_trans HBS.out.size (how6.lt q hq).1)); have HBW7 := Lib.hid (Below.grown HBW6.out hg7 HBW6.out.size (fun q hq => (how6.lt q hq).1)))
    skip
    have HO7 := Lib.hid hown7
    have HXN := Lib.hid (show ∀ j, j < k + 1 → evP (ws.getD j []) = some ((xs ++ [(⟨x0, x1, x2, x3, x4, x5, x6⟩ : Ev)]).getD j C20.Ev.none) from fun j hj => by
     rcases Nat.lt_or_ge j k with q | q
     ·rw [getD_left _ _ _ (by rw [HXL.out]; exact q)]; exact HXS.out j q
     ·obtain rfl : j = k := by omega
      rw [getD_snoc _ _ _ HXL.out, HL.out]; exact HPX.out)
    have HKM1 := Lib.hid (show k + 1 ≤ m from by have := HKM.out; omega)
    clear hown7 hg7 how6
    go_wp2
    go_roundw
    case rel => exact ⟨k + 1, HKM1.out, by go_num, HB7.out, HBW7.out, xs ++ [⟨x0, x1, x2, x3, x4, x5, x6⟩], by rw [List.length_append, HXL.out]; rfl, HXN.out, HO7.out⟩
    case measure => simp [intOf]; omega
   | none =>
    rw [hp] at hE5
    have HPN := Lib.hid hp
    obtain rfl : e = .returned (.tuple #[.agg #[.int .i64 0, .int .i64 0, .int .i64 0, .int .i64 0, .int .i64 0, .int .i64 0, .int .i64 0], .iface 70 (.int .i64 5)]) := hE5
    have HB6 := Lib.hid ((hb5'.alloc hb5'.size (.cells #[.int .i64 0, .int .i64 0, .int .i64 0, .int .i64 0, .int .i64 0, .int .i64 0, .int .i64 0] 44)).alloc (hb5'.alloc hb5'.size (.cells #[.int .i64 0, .int .i64 0, .int .i64 0, .int .i64 0, .int .i64 0, .int .i64 0, .int .i64 0] 44)).size (.cells #[.int .i64 (k : Int), .iface 70 (.int .i64 5)] 101))
    clear hp hb5 hb5'
    go_wp2
    go_ret2
    refine ⟨.inr ⟨k, w5.heap.size + 1, by rw [HM.out]; omega, HXS2.out, fun _ => by rw [HL.out] <;> exact HPN.out, fun q => absurd q HK2.out, rfl, by simp, by simp⟩, HB6.out⟩
set_option maxRecDepth 100000 in
set_option maxHeartbeats 4000000 in
theorem parse_ens (A : Option Addr) (n c : Nat) (bs : List UInt8) (W : World) (hT : TxW W) (hG : 9 ≤ W.heap.size) (hr : RdN .u8 W A (bI bs)) (hl : bs.length = n) (hn : n ≤ 100000) :
 Calls Tryz.prog 66 #[.slice A n c, .func (.func 13) #[] #[]] W fun e w' => PaIs entP Ent.none 33 6 flat W w' e (spL 10 bs) ∧ Below W.heap.size W w' := by
 have hcv := conv_bI (c := c) hr hl
 have HSP := Lib.hid (split_any (bsA bs) 10 W hT (by rw [bs_size]; omega))
 rw [bsA_list] at HSP
 obtain ⟨m, hm⟩ : ∃ m, (spL 10 bs).length = m + 1 := by
  cases h : spL 10 bs with
  | nil => exact absurd h (sp_ne _ _)
  | cons a b => exact ⟨b.length, rfl⟩
 have hml : m ≤ 100000 := by have := sp_length 10 bs; omega
 have HLL0 := Lib.hid (show ∀ j, ((spL 10 bs).getD j []).length ≤ 100000 from fun j => by
  rw [List.getD_eq_getElem?_getD]
  cases h : (spL 10 bs)[j]? with
  | none => simp
  | some x => have := sp_word 10 bs x (List.mem_of_getElem? h); simp; omega)
 have HM := Lib.hid hm
 have HT := Lib.hid hT
 have HG := Lib.hid hG
 obtain ⟨ws, hws⟩ : ∃ ws, spL 10 bs = ws := ⟨_, rfl⟩
 rw [hws] at HSP HM HLL0 ⊢
 have hbS : Below W.heap.size W (W.alloc (.cells (strs ws) 9)) := (Below.refl _ _).alloc (Nat.le_refl _) _
 have HRS := Lib.hid (rds_block (W := W.alloc (.cells (strs ws) 9)) (g := W.heap.size) (T := 9) (fr := (0, 0)) (ws := ws) (by rw [heap_push, if_pos rfl]))
 have HBS := Lib.hid hbS
 clear hr hl hn hm hws hT hG hbS
 go_enter Tryz.func66, Tryz.ntmps66
 go_wp2_with fail
 refine HSP.out.mono ?_
 rintro e w1 ⟨rfl, rfl⟩
 rw [HM.out]
 obtain ⟨w1, hw1⟩ : ∃ X, W.alloc (.cells (strs ws) 9) = X := ⟨_, rfl⟩
 obtain ⟨gs, hgs⟩ : ∃ g, W.heap.size = g := ⟨_, rfl⟩
 have HGS := Lib.hid hgs
 rw [hw1] at HRS HBS ⊢
 rw [hgs] at HRS ⊢
 clear hw1 hgs HSP
 go_wp2
 go_loopw [8, 21] (fun vo i wr => ∃ k : Nat, k ≤ m ∧ i = .int .i64 k ∧ Below W.heap.size W wr ∧ Below w1.heap.size w1 wr ∧ ∃ xs : List Ent, xs.length = k ∧ (∀ j, j < k → entP (ws.getD j []) = some (xs.getD j Ent.none)) ∧ wr.ownsRow w1.heap.size 33 6 vo k (flat xs)) (fun _ i _ => m + 1 - (intOf i).toNat)
 case atStart => exact ⟨0, Nat.zero_le _, rfl, HBS.out, Below.refl _ _, [], rfl, fun j hj => by omega, ⟨rfl, .inl ⟨rfl, rfl⟩⟩⟩
 case round =>
  obtain ⟨k, hk, rfl, hbr, hbw, xs, hxl, hxs, how⟩ := hrel
  have HBR := Lib.hid hbr
  have HBW := Lib.hid hbw
  have HXS := Lib.hid hxs
  have HXL := Lib.hid hxl
  have HXS2 := Lib.hid (show ∀ j, j < k → ∃ x, entP (ws.getD j []) = some x from fun j hj => ⟨_, hxs j hj⟩)
  have HOW := Lib.hid how
  obtain ⟨gw, ow, hA, hc⟩ := HRS.out.below hbw
  obtain ⟨hAA, lgw⟩ := hA (by rw [HM.out]; omega)
  obtain ⟨rfl, rfl⟩ : gw = gs ∧ ow = 0 := by cases hAA; exact ⟨rfl, rfl⟩
  have hck := hc k (by rw [HM.out]; omega)
  rw [Nat.zero_add] at hck
  obtain ⟨L, hL⟩ : ∃ L, ws.getD k [] = L := ⟨_, rfl⟩
  have HL := Lib.hid hL
  have HLL := Lib.hid (show L.length ≤ 100000 from by rw [← hL]; exact HLL0.out k)
  rw [hL] at hck
  clear hxl hxs how hA hc hAA hL hbr hbw
  have hlt' : (k : Int) < (m : Int) + 1 := by omega
  have hltn : k < m + 1 := by omega
  by_cases hkm : k = m
  ·subst hkm
   by_cases hLe : L = []
   ·have hbe : (bsA L).toList.isEmpty = true := by rw [bs_list, hLe]; rfl
    have HLE := Lib.hid hLe
    clear hLe
    go_wp2
    go_ret2
    refine ⟨.inl ⟨xs, _, by rw [HM.out, HXL.out]; rfl, ?_, ?_, rfl, ?_⟩, HBR.out⟩
    ·rw [HM.out]; exact HL.out.trans HLE.out
    ·rw [HM.out]; exact HXS.out
    ·rw [HXL.out]; exact own_weaken HOW.out HBS.out.size
   ·have hbe : (bsA L).toList.isEmpty = false := by rw [bs_list]; cases L <;> simp_all
    have HLE := Lib.hid hLe
    have HK1 := Lib.hid (show ¬ k + 1 < ws.length from by rw [HM.out]; omega)
    clear hLe
    have HPE := Lib.hid (parse_entry (bsA L) wr (HT.out.below HBR.out) (by rw [bs_size]; have := HLL.out; omega) (Nat.le_trans HG.out HBR.out.size))
    rw [bsA_list] at HPE
    go_wp2_with fail
    refine HPE.out.mono ?_
    rintro e w5 ⟨hE5, hb5⟩
    have hb5' := HBR.out.trans (hb5.mono HBR.out.size)
    cases hp : entP L with
    | some x =>
     rw [hp] at hE5
     obtain ⟨x0, x1, x2, x3, x4, x5⟩ := x
     obtain rfl : e = .returned (.tuple #[.agg #[.int .i64 x0, .int .i64 x1, .int .i64 x2, .int .i64 x3, .int .i64 x4, .int .i64 x5], .nilIface]) := hE5
     have HB6 := Lib.hid ((hb5'.alloc hb5'.size (.cells #[.int .i64 x0, .int .i64 x1, .int .i64 x2, .int .i64 x3, .int .i64 x4, .int .i64 x5] 33)).alloc (hb5'.alloc hb5'.size (.cells #[.int .i64 x0, .int .i64 x1, .int .i64 x2, .int .i64 x3, .int .i64 x4, .int .i64 x5] 33)).size (.cells #[.int .i64 (k : Int), .iface 70 (.int .i64 5)] 101))
     clear hp hb5 hb5'
     go_wp2
     go_ret2
     refine ⟨.inr ⟨k, w5.heap.size + 1, by rw [HM.out]; omega, HXS2.out, fun q => absurd q HK1.out, fun _ => by rw [HL.out] <;> exact HLE.out, rfl, by simp, by simp⟩, HB6.out⟩
    | none =>
     rw [hp] at hE5
     obtain rfl : e = .returned (.tuple #[.agg #[.int .i64 0, .int .i64 0, .int .i64 0, .int .i64 0, .int .i64 0, .int .i64 0], .iface 70 (.int .i64 5)]) := hE5
     have HB6 := Lib.hid ((hb5'.alloc hb5'.size (.cells #[.int .i64 0, .int .i64 0, .int .i64 0, .int .i64 0, .int .i64 0, .int .i64 0] 33)).alloc (hb5'.alloc hb5'.size (.cells #[.int .i64 0, .int .i64 0, .int .i64 0, .int .i64 0, .int .i64 0, .int .i64 0] 33)).size (.cells #[.int .i64 (k : Int), .iface 70 (.int .i64 5)] 101))
     clear hp hb5 hb5'
     go_wp2
     go_ret2
     refine ⟨.inr ⟨k, w5.heap.size + 1, by rw [HM.out]; omega, HXS2.out, fun q => absurd q HK1.out, fun _ => by rw [HL.out] <;> exact HLE.out, rfl, by simp, by simp⟩, HB6.out⟩
  ·have hkb : ((k : Int) == (m : Int)) = false := by simp; omega
   have HKM := Lib.hid hkm
   have HK2 := Lib.hid (show ¬ k + 1 = ws.length from by rw [HM.out]; omega)
   clear hkm
   have HPE := Lib.hid (parse_entry (bsA L) wr (HT.out.below HBR.out) (by rw [bs_size]; have := HLL.out; omega) (Nat.le_trans HG.out HBR.out.size))
   rw [bsA_list] at HPE
   go_wp2_with fail
   refine HPE.out.mono ?_
   rintro e w5 ⟨hE5, hb5⟩
   have hb5' := HBR.out.trans (hb5.mono HBR.out.size)
   cases hp : entP L with
   | some x =>
    rw [hp] at hE5
    have HPX := Lib.hid hp
    obtain ⟨x0, x1, x2, x3, x4, x5⟩ := x
    obtain rfl : e = .returned (.tuple #[.agg #[.int .i64 x0, .int .i64 x1, .int .i64 x2, .int .i64 x3, .int .i64 x4, .int .i64 x5], .nilIface]) := hE5
    have how6 := ((own_below HOW.out hb5).alloc (.cells #[.int .i64 x0, .int .i64 x1, .int .i64 x2, .int .i64 x3, .int .i64 x4, .int .i64 x5] 33)).alloc (.cells #[.int .i64 x0, .int .i64 x1, .int .i64 x2, .int .i64 x3, .int .i64 x4, .int .i64 x5] 33)
    have hb6 : Below w5.heap.size w5 ((w5.alloc (.cells #[.int .i64 x0, .int .i64 x1, .int .i64 x2, .int .i64 x3, .int .i64 x4, .int .i64 x5] 33)).alloc (.cells #[.int .i64 x0, .int .i64 x1, .int .i64 x2, .int .i64 x3, .int .i64 x4, .int .i64 x5] 33)) := ((Below.refl _ _).alloc (Nat.le_refl _) _).alloc (by simp) _
    have HB6 := Lib.hid (hb5'.trans (hb6.mono hb5'.size))
    have hbw5 := HBW.out.trans (hb5.mono HBW.out.size)
    have HBW6 := Lib.hid (hbw5.trans (hb6.mono hbw5.size))
    have hkn : k + 1 ≤ 1000000 := by omega
    have hro := rdeo_one (w5.alloc (.cells #[.int .i64 x0, .int .i64 x1, .int .i64 x2, .int .i64 x3, .int .i64 x4, .int .i64 x5] 33)) x0 x1 x2 x3 x4 x5 33
    rw [show (w5.alloc (.cells #[.int .i64 x0, .int .i64 x1, .int .i64 x2, .int .i64 x3, .int .i64 x4, .int .i64 x5] 33)).heap.size = w5.heap.size + 1 from by simp] at hro
    clear hp hb5 hb5' hb6 hbw5
    go_wp2_with (at_builtin; refine wpList_append_ents rfl _ _ rfl rfl w1.heap.size _ k (flat xs) rfl how6 ⟨w5.heap.size + 1, 0, none⟩ 1 1 [⟨x0, x1, x2, x3, x4, x5⟩] rfl rfl hro HBW6.out.size hkn ?_; intro v7 w7 hown7 hg7; have HB7 := Lib.hid (Below.grown HB6.out hg7 HB6.out.size (fun q hq => Nat.le_trans HBS.out.size (how6.lt q hq).1)); have HBW7 := Lib.hid (Below.grown HBW6.out hg7 HBW6.out.size (fun q hq => (how6.lt q hq).1)))
    rw [← flat_append] at hown7
    have HO7 := Lib.hid hown7
    have HXN := Lib.hid (show ∀ j, j < k + 1 → entP (ws.getD j []) = some ((xs ++ [(⟨x0, x1, x2, x3, x4, x5⟩ : Ent)]).getD j Ent.none) from fun j hj => by
     rcases Nat.lt_or_ge j k with q | q
     ·rw [getD_left _ _ _ (by rw [HXL.out]; exact q)]; exact HXS.out j q
     ·obtain rfl : j = k := by omega
      rw [getD_snoc _ _ _ HXL.out, HL.out]; exact HPX.out)
    have HKM1 := Lib.hid (show k + 1 ≤ m from by have := HKM.out; omega)
    clear hown7 hg7 how6
    go_wp2
    go_roundw
    case rel => exact ⟨k + 1, HKM1.out, by go_num, HB7.out, HBW7.out, xs ++ [⟨x0, x1, x2, x3, x4, x5⟩], by rw [List.length_append, HXL.out]; rfl, HXN.out, HO7.out⟩
    case measure => simp [intOf]; omega
   | none =>
    rw [hp] at hE5
    have HPN := Lib.hid hp
    obtain rfl : e = .returned (.tuple #[.agg #[.int .i64 0, .int .i64 0, .int .i64 0, .int .i64 0, .int .i64 0, .int .i64 0], .iface 70 (.int .i64 5)]) := hE5
    have HB6 := Lib.hid ((hb5'.alloc hb5'.size (.cells #[.int .i64 0, .int .i64 0, .int .i64 0, .int .i64 0, .int .i64 0, .int .i64 0] 33)).alloc (hb5'.alloc hb5'.size (.cells #[.int .i64 0, .int .i64 0, .int .i64 0, .int .i64 0, .int .i64 0, .int .i64 0] 33)).size (.cells #[.int .i64 (k : Int), .iface 70 (.int .i64 5)] 101))
    clear hp hb5 hb5'
    go_wp2
    go_ret2
    refine ⟨.inr ⟨k, w5.heap.size + 1, by rw [HM.out]; omega, HXS2.out, fun _ => by rw [HL.out] <;> exact HPN.out, fun q => absurd q HK2.out, rfl, by simp, by simp⟩, HB6.out⟩
theorem ptrace_any (A : Option Addr) (n c : Nat) (bs : List UInt8) (W : World) (hT : TxW W) (hG : 9 ≤ W.heap.size) (hr : RdN .u8 W A (bI bs)) (hl : bs.length = n) (hn : n ≤ 100000) :
 Calls Tryz.prog 24 #[.slice A n c] W fun e w' => PaIs evP C20.Ev.none 44 7 C20.evV W w' e (spL 10 bs) ∧ Below W.heap.size W w' := by
 have HW := Lib.hid (parse_evs A n c bs W hT hG hr hl hn)
 clear hT hG hr hl hn
 go_enter Tryz.func24, Tryz.ntmps24
 go_wp2_with fail
 refine HW.out.mono ?_
 rintro e w1 ⟨h, hb⟩
 rcases h with ⟨xs, v, h1, h2, h3, rfl, hown⟩ | ⟨i, b, h1, h2, h3, h4, rfl, h5, h6⟩
 ·have H1 := Lib.hid h1
  have H2 := Lib.hid h2
  have H3 := Lib.hid h3
  have HO := Lib.hid hown
  clear h1 h2 h3 hown
  go_wp2
  go_ret2
  exact ⟨.inl ⟨xs, v, H1.out, H2.out, H3.out, rfl, HO.out⟩, hb⟩
 ·have H1 := Lib.hid h1
  have H2 := Lib.hid h2
  have H3 := Lib.hid h3
  have H4 := Lib.hid h4
  have H5 := Lib.hid h5
  have H6 := Lib.hid h6
  clear h1 h2 h3 h4 h5 h6
  go_wp2
  go_ret2
  exact ⟨.inr ⟨i, b, H1.out, H2.out, H3.out, H4.out, rfl, H5.out, H6.out⟩, hb⟩
theorem pscript_any (A : Option Addr) (n c : Nat) (bs : List UInt8) (W : World) (hT : TxW W) (hG : 9 ≤ W.heap.size) (hr : RdN .u8 W A (bI bs)) (hl : bs.length = n) (hn : n ≤ 100000) :
 Calls Tryz.prog 26 #[.slice A n c] W fun e w' => PaIs entP Ent.none 33 6 flat W w' e (spL 10 bs) ∧ Below W.heap.size W w' := by
 have HW := Lib.hid (parse_ens A n c bs W hT hG hr hl hn)
 clear hT hG hr hl hn
 go_enter Tryz.func26, Tryz.ntmps26
 go_wp2_with fail
 refine HW.out.mono ?_
 rintro e w1 ⟨h, hb⟩
 rcases h with ⟨xs, v, h1, h2, h3, rfl, hown⟩ | ⟨i, b, h1, h2, h3, h4, rfl, h5, h6⟩
 ·have H1 := Lib.hid h1
  have H2 := Lib.hid h2
  have H3 := Lib.hid h3
  have HO := Lib.hid hown
  clear h1 h2 h3 hown
  go_wp2
  go_ret2
  exact ⟨.inl ⟨xs, v, H1.out, H2.out, H3.out, rfl, HO.out⟩, hb⟩
 ·have H1 := Lib.hid h1
  have H2 := Lib.hid h2
  have H3 := Lib.hid h3
  have H4 := Lib.hid h4
  have H5 := Lib.hid h5
  have H6 := Lib.hid h6
  clear h1 h2 h3 h4 h5 h6
  go_wp2
  go_ret2
  exact ⟨.inr ⟨i, b, H1.out, H2.out, H3.out, H4.out, rfl, H5.out, H6.out⟩, hb⟩
end Go.Proofs.YtjpjlfjaapfnkaaGreatDoor
namespace Go.Proofs.YtjpjlfjaapfnkaaGreatDoor
open C20 (Ev formB evC)
end Go.Proofs.YtjpjlfjaapfnkaaGreatDoor

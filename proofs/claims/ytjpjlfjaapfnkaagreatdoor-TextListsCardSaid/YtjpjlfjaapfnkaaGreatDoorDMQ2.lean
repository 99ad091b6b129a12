/-
  The law's reads. No conditions beyond those that each theorem states.
-/
import Derived.Test.YtjpjlfjaapfnkaaGreatDoorDMO2
import Derived.Test.YtjpjlfjaapfnkaaGreatDoorDMY
import Derived.Test.YtjpjlfjaapfnkaaGreatDoorDMB
import Derived.Test.YtjpjlfjaapfnkaaGreatDoorDMU
import Derived.Deep.RegionWith
set_option linter.unusedVariables false
set_option linter.unusedSimpArgs false
namespace Go.Proofs.YtjpjlfjaapfnkaaGreatDoor
open Go.ChangeShapes Go.WideShapes Go.ChangeAt Go.RowKit
open C20 (Ev formB evC)
theorem of_exactQ (k c t r m p : Int) (w : World) :
 Calls Tryz.prog 11 #[.agg #[.int .i64 k, .int .i64 c, .int .i64 t, .int .i64 r, .int .i64 m, .int .i64 p]] w fun e w' => e = .returned (.agg #[.int .i64 k, .int .i64 c, .int .i64 t, .int .i64 r, .int .i64 m, .int .i64 p]) ∧ (w.alloc (.cells #[.int .i64 k, .int .i64 c, .int .i64 t, .int .i64 r, .int .i64 m, .int .i64 p] 25)).alloc (.cells #[.int .i64 k, .int .i64 c, .int .i64 t, .int .i64 r, .int .i64 m, .int .i64 p] 33) = w' := by
 go_enter Tryz.func11, Tryz.ntmps11
 go_wp2
 go_returns
 exact ⟨rfl, rfl⟩
def fb (Q : List UInt8 → Bool) (ws : List (List UInt8)) (m : Nat) : Nat → Nat
 | 0 => m
 | d + 1 => if Q (ws.getD (m - (d + 1)) []) = true then fb Q ws m d else m - (d + 1)
theorem fb_spec (Q : List UInt8 → Bool) (ws : List (List UInt8)) (m : Nat) : ∀ d, d ≤ m → m - d ≤ fb Q ws m d ∧ fb Q ws m d ≤ m ∧ (∀ j, m - d ≤ j → j < fb Q ws m d → Q (ws.getD j []) = true) ∧ (fb Q ws m d < m → Q (ws.getD (fb Q ws m d) []) = false)
 | 0, _ => ⟨by simp [fb], by simp [fb], fun j h1 h2 => by simp [fb] at h2; omega, fun h => by simp [fb] at h⟩
 | d + 1, h => by
  obtain ⟨a, b, c, e⟩ := fb_spec Q ws m d (by omega)
  unfold fb
  split
  ·rename_i hq
   refine ⟨by omega, b, fun j h1 h2 => ?_, e⟩
   rcases Nat.lt_or_ge j (m - d) with q | q
   ·obtain rfl : j = m - (d + 1) := by omega
    exact hq
   ·exact c j q h2
  ·rename_i hq
   exact ⟨Nat.le_refl _, by omega, fun j h1 h2 => by omega, fun _ => by simpa using hq⟩
theorem fb_is {Q : List UInt8 → Bool} {ws : List (List UInt8)} {m i : Nat} (hi : i ≤ m) (h1 : ∀ j, j < i → Q (ws.getD j []) = true) (h2 : i < m → Q (ws.getD i []) = false) : fb Q ws m m = i := by
 obtain ⟨a, b, c, e⟩ := fb_spec Q ws m m (Nat.le_refl _)
 rcases Nat.lt_trichotomy (fb Q ws m m) i with q | q | q
 ·have := e (by omega)
  rw [h1 _ q] at this; cases this
 ·exact q
 ·have := c i (by omega) q
  rw [h2 (by omega)] at this; cases this
def evZ (L : List UInt8) : Ev := (evP L).getD ⟨0, 0, 0, 0, 0, 0, 0⟩
def enZ (L : List UInt8) : Ent := (entP L).getD ⟨0, 0, 0, 0, 0, 0⟩
theorem evD_ret {e : Ending} {L : List UInt8} (h : EvDIs e (evP L)) : e = .returned (.tuple #[.agg (evC (evZ L)), .bool (evP L).isSome]) := by
 unfold evZ
 cases q : evP L with
 | some x => rw [q] at h; exact h
 | none => rw [q] at h; exact h
theorem enD_ret {e : Ending} {L : List UInt8} (h : EnDIs e (entP L)) : e = .returned (.tuple #[.agg (entA (enZ L)), .bool (entP L).isSome]) := by
 unfold enZ
 cases q : entP L with
 | some x => rw [q] at h; exact h
 | none => rw [q] at h; exact h
theorem fb_step {Q : List UInt8 → Bool} {ws : List (List UInt8)} {m j : Nat} (hj : j < m) : fb Q ws m (m - j) = if Q (ws.getD j []) = true then fb Q ws m (m - (j + 1)) else j := by
 obtain ⟨d, hd⟩ : ∃ d, m - j = d + 1 := ⟨m - j - 1, by omega⟩
 rw [hd, show m - (j + 1) = d by omega]
 show (if Q (ws.getD (m - (d + 1)) []) = true then _ else _) = _
 rw [show m - (d + 1) = j by omega]
def evQ (L : List UInt8) : Bool := (evP L).isSome
def enQ (L : List UInt8) : Bool := (entP L).isSome
theorem rent_info : (Tryz.prog.info? 25).map (fun i => (i.zero, i.size, i.bytes)) = some (some (.agg #[.int .i64 0, .int .i64 0, .int .i64 0, .int .i64 0, .int .i64 0, .int .i64 0]), 6, 48) := by kernel_rfl
theorem run_append_rents (B : Nat) (v : Value) (k : Nat) (xs : List Value) (w : World) (hown : w.ownsRow B 25 6 v k xs) (ad : Addr) (n c : Nat) (bs : List Ent) (hl : bs.length = n) (h : RdEo w (some ad) bs) (hB : B ≤ w.heap.size) (hk : k + n ≤ 1000000) :
 ∃ v' w', (Builtin.append_ #[56, 56] 56 #[v, .slice (some ad) n c]).run Tryz.prog w = .ok v' w' ∧ w'.ownsRow B 25 6 v' (k + n) (xs ++ flat bs) ∧ w.grownBy w' v.ownBlock := by
 obtain ⟨i0, hi0, hz0, hz1, hz2⟩ := info_parts rent_info
 obtain ⟨b, off, hA, hc⟩ := h
 obtain ⟨v', w', hrun, h2, h3, _⟩ := run_append_own (P := Tryz.prog) w B 56 56 25 i0 _ 6 48 Tryz.underlying56 hi0 hz0 hz1 hz2 rfl (by decide) v k xs hown ad n c (flat bs) (by rw [flat_length, hl])
  (fun j u hu => by
   have hj : j < n * 6 := by
    rcases Nat.lt_or_ge j (flat bs).length with h | h
    ·rw [flat_length, hl] at h; exact h
    ·rw [List.getElem?_eq_none h] at hu; cases hu
   have hq : j / 6 < bs.length := by omega
   have := (hA (by omega)).1
   cases this
   have e : (⟨b, off, none⟩ : Addr).add j = ⟨b, off + j, none⟩ := by unfold Addr.add; by_cases h : j = 0 <;> simp [h]
   have hg := flat_get bs (j / 6) (j % 6) hq (by omega)
   rw [show 6 * (j / 6) + j % 6 = j from by omega, hu] at hg
   obtain ⟨c0, c1, c2, c3, c4, c5⟩ := hc (j / 6) hq
   rw [e]
   have h4 : j % 6 = 0 ∨ j % 6 = 1 ∨ j % 6 = 2 ∨ j % 6 = 3 ∨ j % 6 = 4 ∨ j % 6 = 5 := by omega
   rcases h4 with h4 | h4 | h4 | h4 | h4 | h4 <;> rw [h4] at hg <;> rw [hg]
   ·rw [show off + j = off + j / 6 * 6 from by omega, c0]; rfl
   ·rw [show off + j = off + j / 6 * 6 + 1 from by omega, c1]; rfl
   ·rw [show off + j = off + j / 6 * 6 + 2 from by omega, c2]; rfl
   ·rw [show off + j = off + j / 6 * 6 + 3 from by omega, c3]; rfl
   ·rw [show off + j = off + j / 6 * 6 + 4 from by omega, c4]; rfl
   ·rw [show off + j = off + j / 6 * 6 + 5 from by omega, c5]; rfl)
  (by intro u hu; obtain ⟨x, _, hx⟩ := List.mem_flatMap.1 hu; exact cells_one x u hx) (by unfold maxLen; omega) (by omega) hB
 exact ⟨v', w', hrun, h2, h3⟩
theorem wpList_append_rents {ops : Array Oper} {rest : List Oper} {o : Oper} {a : Act} {Q : Exit → Act → World → Prop} {w : World} (hgd : o.guard = none) (s x : Operand)
 (ho : o.op = .call { callee := .builtin .append, args := #[s, x], argTypes := #[56, 56] }) (hty : o.type = 56)
 (B : Nat) (v : Value) (k : Nat) (xs : List Value) (hs : a.eval s = v) (hown : w.ownsRow B 25 6 v k xs) (ad : Addr) (n c : Nat) (bs : List Ent) (hl : bs.length = n) (hx : a.eval x = .slice (some ad) n c) (h : RdEo w (some ad) bs) (hB : B ≤ w.heap.size) (hk : k + n ≤ 1000000)
 (hc : ∀ v' w', w'.ownsRow B 25 6 v' (k + n) (xs ++ flat bs) → w.grownBy w' v.ownBlock → wpList Tryz.prog ops Q rest (a.put o.dst v') w') : wpList Tryz.prog ops Q (o :: rest) a w := by
 refine wpList_plain hgd fun K hK => ?_
 obtain ⟨v', w', hrun, h2, h3⟩ := run_append_rents B v k xs w hown ad n c bs hl h hB hk
 unfold Oper.wp execOp
 simp only [ho, hty, resolve, invoke, builtin, Sem.run_bind, Sem.run_pure, Result.andThen_ok, List.map_toArray, List.map_cons, List.map_nil, hs, hx, hrun]
 exact hK _ _ (hc v' w' h2 h3)
theorem own_apart {w : World} {B n1 n2 s1 s2 : Nat} {e1 e2 : TypeId} {v1 v2 : Value} {x1 x2 : List Value} (h1 : w.ownsRow B e1 s1 v1 n1 x1) (h2 : w.ownsRow B e2 s2 v2 n2 x2) (hne : e1 ≠ e2) : v1.ownBlock = none ∨ v1.ownBlock ≠ v2.ownBlock := by
 rcases h1.2 with ⟨rfl, _⟩ | ⟨g1, c1, u1, rfl, _, hh1, _⟩
 ·exact .inl rfl
 ·right
  rcases h2.2 with ⟨rfl, _⟩ | ⟨g2, c2, u2, rfl, _, hh2, _⟩
  ·simp [Value.ownBlock]
  ·intro e
   have hg : g1 = g2 := by simpa [Value.ownBlock] using e
   subst hg
   rw [hh1] at hh2
   simp at hh2
   exact hne hh2.2
theorem take_map {α β : Type} {f : α → β} {l : List α} {k : Nat} {no : α} (h : k < l.length) : (l.take (k + 1)).map f = (l.take k).map f ++ [f (l.getD k no)] := by
 rw [List.take_succ_eq_append_getElem h, List.getD_eq_getElem?_getD, List.getElem?_eq_getElem h, List.map_append]
 rfl
theorem own_at_none {w : World} {g B sz : Nat} {T : TypeId} (h : w.heap[g]? = some (.cells #[] T (0, 0))) (hB : B ≤ g) : w.ownsRow B T sz (.slice (some ⟨g, 0, none⟩) 0 0) 0 [] :=
 ⟨by simp, .inr ⟨g, 0, #[], rfl, hB, h, Nat.le_refl _, Nat.zero_le _, by simp, by simp⟩⟩
theorem pa_rd {α : Type} {P : List UInt8 → Option α} {no : α} {ty : TypeId} {sz : Nat} {vals : List α → List Value} {W w' : World} {e : Ending} {ws : List (List UInt8)} {m : Nat} (h : PaIs P no ty sz vals W w' e ws) (hm : ws.length = m + 1) :
 ∃ A n c er, e = .returned (.tuple #[.slice A n c, er]) ∧
  ((ws.getD m [] = [] ∧ fb (fun L => (P L).isSome) ws m m = m ∧ er = .nilIface ∧ n = m ∧ w'.ownsRow W.heap.size ty sz (.slice A n c) m (vals ((ws.take m).map fun L => (P L).getD no))) ∨
   (n = 0 ∧ (fb (fun L => (P L).isSome) ws m m < m ∨ ws.getD m [] ≠ []) ∧ ErrIs w' er 5 (fb (fun L => (P L).isSome) ws m m : Nat))) := by
 rcases h with ⟨xs, v, h1, h2, h3, rfl, ho⟩ | ⟨i, b, h1, h2, h3, h4, rfl, h5, h6⟩
 ·rw [hm, show m + 1 - 1 = m from rfl] at h1 h2 h3
  have hx : (ws.take m).map (fun L => (P L).getD no) = xs := by
   apply List.ext_getElem (by simp; omega)
   intro i q1 q2
   have q := h3 i (by omega)
   rw [List.getD_eq_getElem?_getD, List.getElem?_eq_getElem (show i < ws.length by omega), List.getD_eq_getElem?_getD, List.getElem?_eq_getElem q2] at q
   simp only [Option.getD_some] at q
   simp [q]
  rw [h1] at ho
  obtain ⟨A, n, c, rfl, rfl⟩ : ∃ A n c, v = .slice A n c ∧ n = m := by
   rcases ho.2 with ⟨rfl, h0⟩ | ⟨g, cap, cur, rfl, _⟩
   ·exact ⟨_, _, _, rfl, h0.symm⟩
   ·exact ⟨_, _, _, rfl, rfl⟩
  refine ⟨A, n, c, _, rfl, .inl ⟨h2, ?_, rfl, rfl, by rw [hx]; exact ho⟩⟩
  exact fb_is (Nat.le_refl _) (fun j hj => by rw [h3 j hj]; rfl) (fun q => absurd q (Nat.lt_irrefl _))
 ·rw [hm] at h1 h3 h4
  have hf : fb (fun L => (P L).isSome) ws m m = i := fb_is (by omega) (fun j hj => by obtain ⟨x, hx⟩ := h2 j hj; simp only [hx]; rfl) (fun q => by simp only [h3 (by omega)]; rfl)
  refine ⟨_, _, _, _, rfl, .inr ⟨rfl, ?_, .inr (.inr ⟨b, rfl, by omega, by omega, by rw [hf]; exact h5, h6⟩)⟩⟩
  rcases Nat.lt_or_ge i m with q | q
  ·exact .inl (by rw [hf]; exact q)
  ·obtain rfl : i = m := by omega
   exact .inr (h4 rfl)
set_option maxRecDepth 100000 in
set_option maxHeartbeats 8000000 in
theorem reads_true (A : Option Addr) (n c : Nat) (bs : List UInt8) (W : World) (hT : TxW W) (hG : 9 ≤ W.heap.size) (hr : RdN .u8 W A (bI bs)) (hl : bs.length = n) (hn : n ≤ 2000) :
 Calls Tryz.prog 23 #[.slice A n c] W fun e w' => e = .returned (.bool true) ∧ Below W.heap.size W w' := by
 have HLN := Lib.hid (lines_any A n c bs W hr hl (by omega))
 obtain ⟨m, hm⟩ : ∃ m, (spL 10 bs).length = m + 1 := by
  cases h : spL 10 bs with
  | nil => exact absurd h (sp_ne _ _)
  | cons a b => exact ⟨b.length, rfl⟩
 have hml : m ≤ 2000 := by have := sp_length 10 bs; omega
 have HLL := Lib.hid (show ∀ j, ((spL 10 bs).getD j []).length ≤ 2000 from fun j => by
  rw [List.getD_eq_getElem?_getD]
  cases h : (spL 10 bs)[j]? with
  | none => simp
  | some x => have := sp_word 10 bs x (List.mem_of_getElem? h); simp; omega)
 have HM := Lib.hid hm
 have HT := Lib.hid hT
 have HG := Lib.hid hG
 have HR := Lib.hid hr
 have HLB := Lib.hid hl
 obtain ⟨ws, hws⟩ : ∃ ws, spL 10 bs = ws := ⟨_, rfl⟩
 have HWS := Lib.hid hws
 rw [hws] at HLN HM HLL
 obtain ⟨D, hD⟩ : ∃ D, decide (ws.getD m [] = []) = D := ⟨_, rfl⟩
 have HD := Lib.hid hD
 rw [HM.out, show m + 1 - 1 = m from rfl, hD] at HLN
 clear hr hl hm hws hT hG hD
 go_enter Tryz.func23, Tryz.ntmps23
 go_wp2_with fail
 refine HLN.out.mono ?_
 rintro e w1 ⟨⟨A', cp, rfl, hrd⟩, hb1⟩
 have HRS := Lib.hid hrd
 have HB1 := Lib.hid hb1
 clear hrd hb1 HLN
 go_wp2
 go_loopw [7, 8, 9] (fun vb vw vi wr => ∃ k : Nat, k ≤ m ∧ vi = .int .i64 ((k : Int) - 1) ∧ vb = .int .i64 (fb evQ ws m (m - k) : Nat) ∧ vw = .int .i64 (fb enQ ws m (m - k) : Nat) ∧ Below w1.heap.size w1 wr) (fun _ _ vi _ => (intOf vi + 1).toNat)
 case atStart => exact ⟨m, Nat.le_refl _, rfl, by rw [Nat.sub_self]; rfl, by rw [Nat.sub_self]; rfl, Below.refl _ _⟩
 case round =>
  obtain ⟨k, hk, rfl, rfl, rfl, hbr⟩ := hrel
  have HBR := Lib.hid hbr
  by_cases hk0 : k = 0
  ·subst hk0
   obtain ⟨F1, hF1⟩ : ∃ f, fb evQ ws m (m - 0) = f := ⟨_, rfl⟩
   obtain ⟨F2, hF2⟩ : ∃ f, fb enQ ws m (m - 0) = f := ⟨_, rfl⟩
   have HF1 := Lib.hid (show fb evQ ws m m = F1 from hF1)
   have HF2 := Lib.hid (show fb enQ ws m m = F2 from hF2)
   rw [hF1, hF2, show (((0 : Nat) : Int) - 1) = -1 from rfl]
   clear hF1 hF2 hbr hk
   go_wp2
   go_loopw [5, 6, 14] (fun ve vn vi wr => ∃ k : Nat, k ≤ m ∧ vi = .int .i64 k ∧ Below w1.heap.size w1 wr ∧ wr.ownsRow w1.heap.size 44 7 ve k (C20.evV ((ws.take k).map evZ)) ∧ wr.ownsRow w1.heap.size 25 6 vn k (flat ((ws.take k).map enZ))) (fun _ _ vi _ => m - (intOf vi).toNat)
   case atStart => exact ⟨0, Nat.zero_le _, rfl, HBR.out, ⟨rfl, .inl ⟨rfl, rfl⟩⟩, ⟨rfl, .inl ⟨rfl, rfl⟩⟩⟩
   case round =>
    obtain ⟨k, hk, rfl, hbq, hoe, hon⟩ := hrel
    have HBQ := Lib.hid hbq
    have HOE := Lib.hid hoe
    have HON := Lib.hid hon
    clear hoe hon
    by_cases hkm : k < m
    ·have hkm' : (k : Int) < (m : Int) := by omega
     have hk0 : (0 : Int) ≤ (k : Int) := by omega
     obtain ⟨gw, ow, hA, hc⟩ := HRS.out.below hbq
     obtain ⟨rfl, lgw⟩ := hA (by rw [HM.out]; omega)
     have hck := hc k (by rw [HM.out]; omega)
     have HTE := Lib.hid (take_map (f := evZ) (no := []) (show k < ws.length from by rw [HM.out]; omega))
     have HTN := Lib.hid (take_map (f := enZ) (no := []) (show k < ws.length from by rw [HM.out]; omega))
     obtain ⟨L, hL⟩ : ∃ L, ws.getD k [] = L := ⟨_, rfl⟩
     have hLl : L.length ≤ 2000 := by rw [← hL]; exact HLL.out k
     rw [hL] at hck HTE HTN
     have HP1 := Lib.hid (rparse_event (bsA L) wr (by rw [bs_size]; omega))
     rw [bsA_list, evD_eq] at HP1
     have HP2 := Lib.hid (fun W => rparse_entry (bsA L) W (by rw [bs_size]; omega))
     rw [bsA_list, entD_eq] at HP2
     clear hA hc hL hbq
     go_wp2_with fail
     refine HP1.out.mono ?_
     rintro e w3 ⟨hE3, hb3⟩
     obtain rfl := evD_ret hE3
     obtain ⟨b1, hb1'⟩ : ∃ b, (evP L).isSome = b := ⟨_, rfl⟩
     rw [hb1']
     generalize evZ L = Z at *
     obtain ⟨z0, z1, z2, z3, z4, z5, z6⟩ := Z
     unfold evC
     simp only
     have hb4 : Below w3.heap.size w3 (w3.alloc (.cells #[.int .i64 z0, .int .i64 z1, .int .i64 z2, .int .i64 z3, .int .i64 z4, .int .i64 z5, .int .i64 z6] 44)) := (Below.refl _ _).alloc (Nat.le_refl _) _
     have hb34 := hb3.trans (hb4.mono hb3.size)
     have hck3 := cell_keep hb34 hck
     have HB4 := Lib.hid (HBQ.out.trans (hb34.mono HBQ.out.size))
     have HOE4 := Lib.hid (own_below HOE.out hb34)
     have HON4 := Lib.hid (own_below HON.out hb34)
     clear hE3 hb3 hb34 hck HP1
     go_wp2_with fail
     refine (HP2.out _).mono ?_
     rintro e w5 ⟨hE5, hb5⟩
     obtain rfl := enD_ret hE5
     obtain ⟨b2, hb2'⟩ : ∃ b, (entP L).isSome = b := ⟨_, rfl⟩
     rw [hb2']
     generalize enZ L = Y at *
     obtain ⟨y0, y1, y2, y3, y4, y5⟩ := Y
     unfold entA
     simp only
     have hb5' := HB4.out.trans (hb5.mono HB4.out.size)
     have e5 := (hb5.block w3.heap.size (by simp)).trans (show (w3.alloc (.cells #[.int .i64 z0, .int .i64 z1, .int .i64 z2, .int .i64 z3, .int .i64 z4, .int .i64 z5, .int .i64 z6] 44)).heap[w3.heap.size]? = some (.cells #[.int .i64 z0, .int .i64 z1, .int .i64 z2, .int .i64 z3, .int .i64 z4, .int .i64 z5, .int .i64 z6] 44 (0, 0)) from by rw [heap_push, if_pos rfl])
     have hoe5 := own_below HOE4.out hb5
     have hon5 := own_below HON4.out hb5
     obtain ⟨g3, hg3⟩ : ∃ g, w3.heap.size = g := ⟨_, rfl⟩
     rw [hg3] at e5 ⊢
     have hl5 := C20.lt_of_block e5
     have e6 := (heap_alloc_old w5 (.cells #[.int .i64 y0, .int .i64 y1, .int .i64 y2, .int .i64 y3, .int .i64 y4, .int .i64 y5] 25) hl5).trans e5
     have v0 := C20.heap_cell e6 (j := 0) (u := .int .i64 z0) rfl
     have v1 := C20.heap_cell e6 (j := 1) (u := .int .i64 z1) rfl
     have v2 := C20.heap_cell e6 (j := 2) (u := .int .i64 z2) rfl
     have v3 := C20.heap_cell e6 (j := 3) (u := .int .i64 z3) rfl
     have v4 := C20.heap_cell e6 (j := 4) (u := .int .i64 z4) rfl
     have v5 := C20.heap_cell e6 (j := 5) (u := .int .i64 z5) rfl
     have v6 := C20.heap_cell e6 (j := 6) (u := .int .i64 z6) rfl
     have hoe7 := (hoe5.alloc (.cells #[.int .i64 y0, .int .i64 y1, .int .i64 y2, .int .i64 y3, .int .i64 y4, .int .i64 y5] 25)).alloc (.cells #[.int .i64 z0, .int .i64 z1, .int .i64 z2, .int .i64 z3, .int .i64 z4, .int .i64 z5, .int .i64 z6] 44)
     have hon7 := (hon5.alloc (.cells #[.int .i64 y0, .int .i64 y1, .int .i64 y2, .int .i64 y3, .int .i64 y4, .int .i64 y5] 25)).alloc (.cells #[.int .i64 z0, .int .i64 z1, .int .i64 z2, .int .i64 z3, .int .i64 z4, .int .i64 z5, .int .i64 z6] 44)
     have hb7 : Below w5.heap.size w5 ((w5.alloc (.cells #[.int .i64 y0, .int .i64 y1, .int .i64 y2, .int .i64 y3, .int .i64 y4, .int .i64 y5] 25)).alloc (.cells #[.int .i64 z0, .int .i64 z1, .int .i64 z2, .int .i64 z3, .int .i64 z4, .int .i64 z5, .int .i64 z6] 44)) := ((Below.refl _ _).alloc (Nat.le_refl _) _).alloc (by simp) _
     have HB7 := Lib.hid (hb5'.trans (hb7.mono hb5'.size))
     have HY7 := Lib.hid (show ((w5.alloc (.cells #[.int .i64 y0, .int .i64 y1, .int .i64 y2, .int .i64 y3, .int .i64 y4, .int .i64 y5] 25)).alloc (.cells #[.int .i64 z0, .int .i64 z1, .int .i64 z2, .int .i64 z3, .int .i64 z4, .int .i64 z5, .int .i64 z6] 44)).heap[w5.heap.size]? = some (.cells #[.int .i64 y0, .int .i64 y1, .int .i64 y2, .int .i64 y3, .int .i64 y4, .int .i64 y5] 25 (0, 0)) from by rw [heap_push, if_neg (by simp), heap_push, if_pos rfl])
     have hkn : k + 1 ≤ 1000000 := by omega
     clear hE5 hb5 hb5' hck3 HP2 HOE4 HON4 HB4 hb4 hb1' hb2' hb7 e5 e6 HBQ HOE HON
     go_wp2_with (first
      | (at_builtin
         refine C20.wpList_append_evs rfl _ _ rfl rfl w1.heap.size _ k _ rfl hoe7 (some ⟨w5.heap.size + 1, 0, none⟩) 1 1 [⟨z0, z1, z2, z3, z4, z5, z6⟩] rfl rfl (C20.rde_of_block (cs := #[.int .i64 z0, .int .i64 z1, .int .i64 z2, .int .i64 z3, .int .i64 z4, .int .i64 z5, .int .i64 z6]) (T := 44) (fr := (0, 0)) (by rw [heap_push, if_pos (by simp)]) rfl) HB7.out.size hkn ?_
         intro r7 w7 hown7 hg7
         have HB8 := Lib.hid (Below.grown HB7.out hg7 HB7.out.size (fun q hq => (hoe7.lt q hq).1))
         have hon8 := hon7.kept hg7 (own_apart hon7 hoe7 (by decide))
         have ey := (hg7.block w5.heap.size (by simp; omega) (fun e => absurd (hoe5.lt _ e.symm).2 (Nat.lt_irrefl _))).trans HY7.out
         have hl7 := C20.lt_of_block ey
         obtain ⟨g5, hg5⟩ : ∃ g, w5.heap.size = g := ⟨_, rfl⟩
         rw [hg5] at ey hl7 ⊢
         have x0 := C20.heap_cell ey (j := 0) (u := .int .i64 y0) rfl
         have x1 := C20.heap_cell ey (j := 1) (u := .int .i64 y1) rfl
         have x2 := C20.heap_cell ey (j := 2) (u := .int .i64 y2) rfl
         have x3 := C20.heap_cell ey (j := 3) (u := .int .i64 y3) rfl
         have x4 := C20.heap_cell ey (j := 4) (u := .int .i64 y4) rfl
         have x5 := C20.heap_cell ey (j := 5) (u := .int .i64 y5) rfl
         have hoe9 := hown7.alloc (.cells #[.int .i64 y0, .int .i64 y1, .int .i64 y2, .int .i64 y3, .int .i64 y4, .int .i64 y5] 25)
         have hon9 := hon8.alloc (.cells #[.int .i64 y0, .int .i64 y1, .int .i64 y2, .int .i64 y3, .int .i64 y4, .int .i64 y5] 25)
         have HB9 := Lib.hid (HB8.out.alloc HB8.out.size (.cells #[.int .i64 y0, .int .i64 y1, .int .i64 y2, .int .i64 y3, .int .i64 y4, .int .i64 y5] 25))
         clear hg7 hown7 hon8 hoe7 hon7 v0 v1 v2 v3 v4 v5 v6 HY7 hoe5 hon5 hg3 HB7 HB8 ey)
      | (at_builtin
         refine wpList_append_rents rfl _ _ rfl rfl w1.heap.size _ k _ rfl hon9 ⟨w7.heap.size, 0, none⟩ 1 1 [⟨y0, y1, y2, y3, y4, y5⟩] rfl rfl (rdeo_one _ _ _ _ _ _ _ _) HB9.out.size hkn ?_
         intro r9 w9 hown9 hg9))
     have HB10 := Lib.hid (Below.grown HB9.out hg9 HB9.out.size (fun q hq => (hon9.lt q hq).1))
     have hoe10 := hoe9.kept hg9 (own_apart hoe9 hon9 (by decide))
     rw [← flat_append, ← HTN.out] at hown9
     rw [← HTE.out] at hoe10
     have HE10 := Lib.hid hoe10
     have HN10 := Lib.hid hown9
     clear hoe9 hon9 hg9 hown9 hoe10 x0 x1 x2 x3 x4 x5 HB9 hkn
     go_wp2
     go_roundw
     case rel => exact ⟨k + 1, by omega, by go_num, HB10.out, HE10.out, HN10.out⟩
     case measure => simp [intOf]; omega
    ·obtain rfl : m = k := by omega
     have hnn : ¬ (m : Int) < (m : Int) := by omega
     obtain ⟨hle, A5, c5, rfl, _, hre⟩ := C20.rde_of_own HOE.out
     obtain ⟨hln, A6, c6, rfl, _, hrn⟩ := rdeo_of_own HON.out
     have HRE := Lib.hid hre
     have HRN := Lib.hid hrn
     have HLE := Lib.hid hle
     have HLN := Lib.hid hln
     have HBW := Lib.hid (HB1.out.trans (HBQ.out.mono HB1.out.size))
     have hem := own_at_none (w := wr.alloc (.cells #[] 5)) (g := wr.heap.size) (B := wr.heap.size) (T := 5) (sz := 1) (by rw [heap_push, if_pos rfl]) (Nat.le_refl _)
     have hba : Below wr.heap.size wr (wr.alloc (.cells #[] 5)) := (Below.refl _ _).alloc (Nat.le_refl _) _
     have hra := HR.out.below (HBW.out.trans (hba.mono HBW.out.size))
     clear hle hln hre hrn HOE HON hbq hk hkm
     go_wp2_with (at_builtin; refine wpList_append_nums (k := .u8) (sz := 1) rfl _ _ rfl rfl Tryz.underlying57 (by kernel_rfl) (by decide) wr.heap.size _ 0 [] rfl hem A n c (bI bs) rfl (by rw [bI_len]; exact HLB.out) hra hba.size (by omega) ?_; intro v7 w7 hown7 hg7; have HB7 := Lib.hid (Below.grown hba hg7 hba.size (fun q hq => (hem.lt q hq).1)); rw [Nat.zero_add, List.nil_append] at hown7; obtain ⟨_, A7, c7, rfl, _, _, hr7, _⟩ := rdn_of_own hown7)
     have HBW7 := Lib.hid (HBW.out.trans (HB7.out.mono HBW.out.size))
     have HPT := Lib.hid (ptrace_any A7 n c7 bs w7 (HT.out.below HBW7.out) (Nat.le_trans HG.out HBW7.out.size) hr7 HLB.out (by omega))
     rw [HWS.out] at HPT
     clear hem hba hra hown7 hg7 hr7
     refine HPT.out.mono ?_
     rintro e w12 ⟨hpt, hb12⟩
     obtain ⟨At, nt, ct, et, rfl, hpd⟩ := pa_rd hpt HM.out
     have HPD := Lib.hid hpd
     have HB12 := Lib.hid (HB7.out.trans (hb12.mono HB7.out.size))
     have HBW12 := Lib.hid (HBW.out.trans (HB12.out.mono HBW.out.size))
     have hem := own_at_none (w := w12.alloc (.cells #[] 5)) (g := w12.heap.size) (B := w12.heap.size) (T := 5) (sz := 1) (by rw [heap_push, if_pos rfl]) (Nat.le_refl _)
     have hba : Below w12.heap.size w12 (w12.alloc (.cells #[] 5)) := (Below.refl _ _).alloc (Nat.le_refl _) _
     have hra := HR.out.below (HBW12.out.trans (hba.mono HBW12.out.size))
     clear hpt hpd hb12 HPT HBW7
     go_wp2_with (at_builtin; refine wpList_append_nums (k := .u8) (sz := 1) rfl _ _ rfl rfl Tryz.underlying57 (by kernel_rfl) (by decide) w12.heap.size _ 0 [] rfl hem A n c (bI bs) rfl (by rw [bI_len]; exact HLB.out) hra hba.size (by omega) ?_; intro v17 w17 hown17 hg17; have HB17 := Lib.hid (Below.grown hba hg17 hba.size (fun q hq => (hem.lt q hq).1)); rw [Nat.zero_add, List.nil_append] at hown17; obtain ⟨_, A17, c17, rfl, _, _, hr17, _⟩ := rdn_of_own hown17)
     have HBW17 := Lib.hid (HBW12.out.trans (HB17.out.mono HBW12.out.size))
     have HPS := Lib.hid (pscript_any A17 n c17 bs w17 (HT.out.below HBW17.out) (Nat.le_trans HG.out HBW17.out.size) hr17 HLB.out (by omega))
     rw [HWS.out] at HPS
     clear hem hba hra hown17 hg17 hr17
     refine HPS.out.mono ?_
     rintro e w22 ⟨hps, hb22⟩
     obtain ⟨As, ns, cs, es, rfl, hpd⟩ := pa_rd hps HM.out
     have HSD := Lib.hid hpd
     have HB22' := Lib.hid (HB17.out.trans (hb22.mono HB17.out.size))
     have HB22 := Lib.hid (HB12.out.trans (HB22'.out.mono HB12.out.size))
     have HBW22 := Lib.hid (HBW.out.trans (HB22.out.mono HBW.out.size))
     clear hpd hps hb22 HPS HBW17 HBW12
     rcases HPD.out with ⟨hz, hf, rfl, hnm, hown⟩ | ⟨rfl, hf, herr⟩
     ·have hf' : m = F1 := (HF1.out.symm.trans hf).symm
      have hnm' := hnm.symm
      subst hnm'
      obtain rfl : D = true := by rw [← HD.out]; exact decide_eq_true hz
      obtain ⟨hl2, _, _, hv, _, hrt⟩ := C20.rde_of_own (own_below hown HB22'.out)
      cases hv
      have hnl : ¬ (m : Int) < (m : Int) := by omega
      have HEV := Lib.hid (revents_true At A5 m ct c5 _ _ w22 hrt (HRE.out.below HB22.out (Nat.le_refl _)) hl2 HLE.out (by omega) (fun k hk => rfl))
      clear hrt hown hz hf HPD hl2 HB12 HB7 HB17 HB22' hnm
      subst hf'
      go_wp2_with fail
      refine HEV.out.mono ?_
      rintro e w24 ⟨rfl, hb24⟩
      have HB24 := Lib.hid hb24
      clear hb24 HEV hnl
      rcases HSD.out with ⟨hz2, hf2, rfl, hnm, hown2⟩ | ⟨rfl, hf2, herr2⟩
      ·skip
       have hf2' : m = F2 := (HF2.out.symm.trans hf2).symm
       have hnm' := hnm.symm
       subst hnm'
       have hw2 := own_below hown2 HB24.out
       obtain ⟨_, _, _, hv, _, hrx⟩ := rdeo_of_own hw2
       cases hv
       have hnl : ¬ (m : Int) < (m : Int) := by omega
       have HBy := Lib.hid (HB22.out.trans (HB24.out.mono HB22.out.size))
       have HRY := Lib.hid (HRN.out.below HBy.out)
       have HRX := Lib.hid (show RdEo _ _ ((ws.take m).map enZ) from hrx)
       have HBWx := Lib.hid (HBW22.out.trans (HB24.out.mono HBW22.out.size))
       have HLM := Lib.hid HLN.out
       clear hown2 hz2 hf2 HSD hnm hrx hw2
       subst hf2'
       go_wp2
       go_loopw [23] (fun i wr => ∃ k : Nat, k ≤ m ∧ i = .int .i64 k ∧ Below w24.heap.size w24 wr) (fun i _ => m - (intOf i).toNat)
       case atStart => exact ⟨0, Nat.zero_le _, rfl, Below.refl _ _⟩
       case round =>
        obtain ⟨k, hk, rfl, hbr⟩ := hrel
        by_cases hlt : k < m
        ·have hlt' : (k : Int) < m := by omega
         have hk0 : (0 : Int) ≤ k := by omega
         obtain ⟨ga, oa, hA, hca⟩ := HRX.out.below hbr
         obtain ⟨rfl, lga⟩ := hA (by rw [HLM.out]; omega)
         obtain ⟨gb, ob, hB, hcb⟩ := HRY.out.below hbr
         obtain ⟨rfl, lgb⟩ := hB (by rw [HLM.out]; omega)
         obtain ⟨p0, p1, p2, p3, p4, p5⟩ := hca k (by rw [HLM.out]; exact hlt)
         obtain ⟨q0, q1, q2, q3, q4, q5⟩ := hcb k (by rw [HLM.out]; exact hlt)
         generalize ((ws.take m).map enZ).getD k Ent.none = E at *
         obtain ⟨e0, e1, e2, e3, e4, e5⟩ := E
         simp only at p0 p1 p2 p3 p4 p5 q0 q1 q2 q3 q4 q5
         have HO := Lib.hid (fun W => of_exactQ e0 e1 e2 e3 e4 e5 W)
         have hbE : Below wr.heap.size wr ((wr.alloc (.cells #[.int .i64 e0, .int .i64 e1, .int .i64 e2, .int .i64 e3, .int .i64 e4, .int .i64 e5] 25)).alloc (.cells #[.int .i64 e0, .int .i64 e1, .int .i64 e2, .int .i64 e3, .int .i64 e4, .int .i64 e5] 33)) := ((Below.refl _ _).alloc (Nat.le_refl _) _).alloc (by simp) _
         have HBF := Lib.hid (hbr.trans (hbE.mono hbr.size))
         have HS8 := Lib.hid (And.intro (And.intro p0 (And.intro p1 (And.intro p2 (And.intro p3 (And.intro p4 p5))))) (And.intro q0 (And.intro q1 (And.intro q2 (And.intro q3 (And.intro q4 q5))))))
         have HS9 := Lib.hid (And.intro (And.intro (cell_keep hbE p0) (And.intro (cell_keep hbE p1) (And.intro (cell_keep hbE p2) (And.intro (cell_keep hbE p3) (And.intro (cell_keep hbE p4) (cell_keep hbE p5)))))) (And.intro (cell_keep hbE q0) (And.intro (cell_keep hbE q1) (And.intro (cell_keep hbE q2) (And.intro (cell_keep hbE q3) (And.intro (cell_keep hbE q4) (cell_keep hbE q5)))))))
         have HK1 := Lib.hid (show k + 1 ≤ m from hlt)
         clear hA hB hca hcb hbr hbE lga lgb p0 p1 p2 p3 p4 p5 q0 q1 q2 q3 q4 q5
         go_wp2
         refine wp_region_N (S := (fun w' => (w'.cell? ⟨ga, oa + k * 6, none⟩ = some (.int .i64 e0) ∧ w'.cell? ⟨ga, oa + k * 6 + 1, none⟩ = some (.int .i64 e1) ∧ w'.cell? ⟨ga, oa + k * 6 + 2, none⟩ = some (.int .i64 e2) ∧ w'.cell? ⟨ga, oa + k * 6 + 3, none⟩ = some (.int .i64 e3) ∧ w'.cell? ⟨ga, oa + k * 6 + 4, none⟩ = some (.int .i64 e4) ∧ w'.cell? ⟨ga, oa + k * 6 + 5, none⟩ = some (.int .i64 e5)) ∧ (w'.cell? ⟨gb, ob + k * 6, none⟩ = some (.int .i64 e0) ∧ w'.cell? ⟨gb, ob + k * 6 + 1, none⟩ = some (.int .i64 e1) ∧ w'.cell? ⟨gb, ob + k * 6 + 2, none⟩ = some (.int .i64 e2) ∧ w'.cell? ⟨gb, ob + k * 6 + 3, none⟩ = some (.int .i64 e3) ∧ w'.cell? ⟨gb, ob + k * 6 + 4, none⟩ = some (.int .i64 e4) ∧ w'.cell? ⟨gb, ob + k * 6 + 5, none⟩ = some (.int .i64 e5)))) (fun i => true) (by kernel_rfl) ?_ (fun hHeld => ?_)
         ·(try dsimp only)
          first
           | exact HS8.out
           | exact HS9.out
         refine tk (i := 0) (v := ?_) rfl (by kernel_rfl) (fun _ _ _ h => h) (Or.inl ⟨by first | kernel_rfl | rfl, ?_⟩) (by assumption) ?_
         rotate_left
         focus intro w hSw; (try dsimp only at hSw); go_simp; try with_reducible rfl
         try (unfold Act.put; dsimp only)
         refine tk (i := 1) (v := ?_) rfl (by kernel_rfl) (fun _ _ _ h => h) (Or.inl ⟨by first | kernel_rfl | rfl, ?_⟩) (by assumption) ?_
         rotate_left
         focus intro w hSw; (try dsimp only at hSw); go_simp; try with_reducible rfl
         try (unfold Act.put; dsimp only)
         refine tk (i := 2) (v := ?_) rfl (by kernel_rfl) (fun _ _ _ h => h) (Or.inl ⟨by first | kernel_rfl | rfl, ?_⟩) (by assumption) ?_
         rotate_left
         focus intro w hSw; (try dsimp only at hSw); go_simp; try with_reducible rfl
         try (unfold Act.put; dsimp only)
         refine tk (i := 3) (v := ?_) rfl (by kernel_rfl) (fun _ _ _ h => h) (Or.inl ⟨by first | kernel_rfl | rfl, ?_⟩) (by assumption) ?_
         rotate_left
         focus intro w hSw; (try dsimp only at hSw); go_simp; try with_reducible rfl
         try (unfold Act.put; dsimp only)
         refine tk (i := 4) (v := ?_) rfl (by kernel_rfl) (fun _ _ _ h => h) (Or.inl ⟨by first | kernel_rfl | rfl, ?_⟩) (by assumption) ?_
         rotate_left
         focus intro w hSw; (try dsimp only at hSw); go_simp; try with_reducible rfl
         try (unfold Act.put; dsimp only)
         refine tk (i := 5) (v := ?_) rfl (by kernel_rfl) (fun _ _ _ h => h) (Or.inl ⟨by first | kernel_rfl | rfl, ?_⟩) (by assumption) ?_
         rotate_left
         focus intro w hSw; (try dsimp only at hSw); go_simp; try with_reducible rfl
         try (unfold Act.put; dsimp only)
         refine tk (i := 6) (v := ?_) rfl (by kernel_rfl) (fun _ _ _ h => h) (Or.inl ⟨by first | kernel_rfl | rfl, ?_⟩) (by assumption) ?_
         rotate_left
         focus intro w hSw; (try dsimp only at hSw); go_simp; try with_reducible rfl
         try (unfold Act.put; dsimp only)
         refine tk (i := 7) (v := ?_) rfl (by kernel_rfl) (fun _ _ _ h => h) (Or.inl ⟨by first | kernel_rfl | rfl, ?_⟩) (by assumption) ?_
         rotate_left
         focus intro w hSw; (try dsimp only at hSw); go_simp; try with_reducible rfl
         try (unfold Act.put; dsimp only)
         refine wpAnyN_ready (rs := [8]) (by kernel_rfl) (by simp) ?_
         refine AllReadyN.cons rfl (fun K hK => ?_) ?_
         ·go_simp
          go_at_call 11
          refine (HO.out _).mono ?_
          rintro e wq ⟨rfl, rfl⟩
          dsimp only
          refine hK.out _ _ ?_ (fun hHeld => ?_)
          ·(try dsimp only)
           first
            | exact HS8.out
            | exact HS9.out
          clear hK K
          (try change wpAnyN _ _ _ _ _ _ _ _ (Act.put _ (some 181) _) _)
          try (unfold Act.put; dsimp only)
          refine tk (i := 9) (v := ?_) rfl (by kernel_rfl) (fun _ _ _ h => h) (Or.inl ⟨by first | kernel_rfl | rfl, ?_⟩) (by assumption) ?_
          rotate_left
          focus intro w hSw; (try dsimp only at hSw); go_simp; try with_reducible rfl
          try (unfold Act.put; dsimp only)
          refine wpAnyN_done (by kernel_rfl) ?_ _
          go_wp2
          go_roundw
          case rel => exact ⟨k + 1, HK1.out, by go_num, by first | exact HBF.out | exact HBF.out.drew | exact C20.below_drewN HBF.out _⟩
          case measure => simp [intOf]; omega
         exact AllReadyN.nil
        ·obtain rfl : m = k := by omega
         have HBR := Lib.hid (HBWx.out.trans (hbr.mono HBWx.out.size))
         clear hbr
         go_wp2
         go_ret
         exact ⟨rfl, HBR.out⟩
      ·rcases hf2 with q | q
       ·skip
        have herr2' : ErrIs w22 es 5 (F2 : Nat) := by rw [← HF2.out]; exact herr2
        have HE3 := Lib.hid (herr2'.below HB24.out)
        have hq : (F2 : Int) < (m : Int) := by rw [← HF2.out] <;> exact Int.ofNat_lt.2 q
        have HBWx := Lib.hid (HBW22.out.trans (HB24.out.mono HBW22.out.size))
        have HC2 := Lib.hid (code_err es 5 F2 w24 HE3.out)
        have HA2 := Lib.hid (at_err es 5 F2 w24 HE3.out (HT.out.below HBWx.out).err)
        clear herr2 herr2' HSD
        go_wp2_with fail
        refine HC2.out.mono ?_
        rintro e w33 ⟨rfl, rfl⟩
        go_wp2_with fail
        refine HA2.out.mono ?_
        rintro e w34 ⟨rfl, hb34⟩
        have HB34 := Lib.hid (HBWx.out.trans (hb34.mono HBWx.out.size))
        clear hb34
        go_wp2
        go_ret
        exact ⟨rfl, HB34.out⟩
       ·exact absurd (of_decide_eq_true HD.out) q
     ·have herr' : ErrIs w12 et 5 (F1 : Nat) := by rw [← HF1.out]; exact herr
      have HE2 := Lib.hid (herr'.below HB22'.out)
      clear herr herr' HPD HB12 HB7 HB17 HB22'
      have HC := Lib.hid (code_err et 5 F1 w22 HE2.out)
      have HA := Lib.hid (at_err et 5 F1 w22 HE2.out (HT.out.below HBW22.out).err)
      by_cases q : F1 < m
      ·have q' : (F1 : Int) < (m : Int) := by omega
       clear hf
       go_wp2_with fail
       refine HC.out.mono ?_
       rintro e w23 ⟨rfl, rfl⟩
       go_wp2_with fail
       refine HA.out.mono ?_
       rintro e w24 ⟨rfl, hb24⟩
       have HB24 := Lib.hid hb24
       clear hb24 HA HC
       rcases HSD.out with ⟨hz2, hf2, rfl, hnm, hown2⟩ | ⟨rfl, hf2, herr2⟩
       ·obtain rfl : D = true := by rw [← HD.out]; exact decide_eq_true hz2
        have hf2' : m = F2 := (HF2.out.symm.trans hf2).symm
        have hnm' := hnm.symm
        subst hnm'
        have hw2 := own_below hown2 HB24.out
        obtain ⟨_, _, _, hv, _, hrx⟩ := rdeo_of_own hw2
        cases hv
        have hnl : ¬ (m : Int) < (m : Int) := by omega
        have HBy := Lib.hid (HB22.out.trans (HB24.out.mono HB22.out.size))
        have HRY := Lib.hid (HRN.out.below HBy.out)
        have HRX := Lib.hid (show RdEo _ _ ((ws.take m).map enZ) from hrx)
        have HBWx := Lib.hid (HBW22.out.trans (HB24.out.mono HBW22.out.size))
        have HLM := Lib.hid HLN.out
        clear hown2 hz2 hf2 HSD hnm hrx hw2
        subst hf2'
        go_wp2
        go_loopw [23] (fun i wr => ∃ k : Nat, k ≤ m ∧ i = .int .i64 k ∧ Below w24.heap.size w24 wr) (fun i _ => m - (intOf i).toNat)
        case atStart => exact ⟨0, Nat.zero_le _, rfl, Below.refl _ _⟩
        case round =>
         obtain ⟨k, hk, rfl, hbr⟩ := hrel
         by_cases hlt : k < m
         ·have hlt' : (k : Int) < m := by omega
          have hk0 : (0 : Int) ≤ k := by omega
          obtain ⟨ga, oa, hA, hca⟩ := HRX.out.below hbr
          obtain ⟨rfl, lga⟩ := hA (by rw [HLM.out]; omega)
          obtain ⟨gb, ob, hB, hcb⟩ := HRY.out.below hbr
          obtain ⟨rfl, lgb⟩ := hB (by rw [HLM.out]; omega)
          obtain ⟨p0, p1, p2, p3, p4, p5⟩ := hca k (by rw [HLM.out]; exact hlt)
          obtain ⟨q0, q1, q2, q3, q4, q5⟩ := hcb k (by rw [HLM.out]; exact hlt)
          generalize ((ws.take m).map enZ).getD k Ent.none = E at *
          obtain ⟨e0, e1, e2, e3, e4, e5⟩ := E
          simp only at p0 p1 p2 p3 p4 p5 q0 q1 q2 q3 q4 q5
          have HO := Lib.hid (fun W => of_exactQ e0 e1 e2 e3 e4 e5 W)
          have hbE : Below wr.heap.size wr ((wr.alloc (.cells #[.int .i64 e0, .int .i64 e1, .int .i64 e2, .int .i64 e3, .int .i64 e4, .int .i64 e5] 25)).alloc (.cells #[.int .i64 e0, .int .i64 e1, .int .i64 e2, .int .i64 e3, .int .i64 e4, .int .i64 e5] 33)) := ((Below.refl _ _).alloc (Nat.le_refl _) _).alloc (by simp) _
          have HBF := Lib.hid (hbr.trans (hbE.mono hbr.size))
          have HS8 := Lib.hid (And.intro (And.intro p0 (And.intro p1 (And.intro p2 (And.intro p3 (And.intro p4 p5))))) (And.intro q0 (And.intro q1 (And.intro q2 (And.intro q3 (And.intro q4 q5))))))
          have HS9 := Lib.hid (And.intro (And.intro (cell_keep hbE p0) (And.intro (cell_keep hbE p1) (And.intro (cell_keep hbE p2) (And.intro (cell_keep hbE p3) (And.intro (cell_keep hbE p4) (cell_keep hbE p5)))))) (And.intro (cell_keep hbE q0) (And.intro (cell_keep hbE q1) (And.intro (cell_keep hbE q2) (And.intro (cell_keep hbE q3) (And.intro (cell_keep hbE q4) (cell_keep hbE q5)))))))
          have HK1 := Lib.hid (show k + 1 ≤ m from hlt)
          clear hA hB hca hcb hbr hbE lga lgb p0 p1 p2 p3 p4 p5 q0 q1 q2 q3 q4 q5
          go_wp2
          refine wp_region_N (S := (fun w' => (w'.cell? ⟨ga, oa + k * 6, none⟩ = some (.int .i64 e0) ∧ w'.cell? ⟨ga, oa + k * 6 + 1, none⟩ = some (.int .i64 e1) ∧ w'.cell? ⟨ga, oa + k * 6 + 2, none⟩ = some (.int .i64 e2) ∧ w'.cell? ⟨ga, oa + k * 6 + 3, none⟩ = some (.int .i64 e3) ∧ w'.cell? ⟨ga, oa + k * 6 + 4, none⟩ = some (.int .i64 e4) ∧ w'.cell? ⟨ga, oa + k * 6 + 5, none⟩ = some (.int .i64 e5)) ∧ (w'.cell? ⟨gb, ob + k * 6, none⟩ = some (.int .i64 e0) ∧ w'.cell? ⟨gb, ob + k * 6 + 1, none⟩ = some (.int .i64 e1) ∧ w'.cell? ⟨gb, ob + k * 6 + 2, none⟩ = some (.int .i64 e2) ∧ w'.cell? ⟨gb, ob + k * 6 + 3, none⟩ = some (.int .i64 e3) ∧ w'.cell? ⟨gb, ob + k * 6 + 4, none⟩ = some (.int .i64 e4) ∧ w'.cell? ⟨gb, ob + k * 6 + 5, none⟩ = some (.int .i64 e5)))) (fun i => true) (by kernel_rfl) ?_ (fun hHeld => ?_)
          ·(try dsimp only)
           first
            | exact HS8.out
            | exact HS9.out
          refine tk (i := 0) (v := ?_) rfl (by kernel_rfl) (fun _ _ _ h => h) (Or.inl ⟨by first | kernel_rfl | rfl, ?_⟩) (by assumption) ?_
          rotate_left
          focus intro w hSw; (try dsimp only at hSw); go_simp; try with_reducible rfl
          try (unfold Act.put; dsimp only)
          refine tk (i := 1) (v := ?_) rfl (by kernel_rfl) (fun _ _ _ h => h) (Or.inl ⟨by first | kernel_rfl | rfl, ?_⟩) (by assumption) ?_
          rotate_left
          focus intro w hSw; (try dsimp only at hSw); go_simp; try with_reducible rfl
          try (unfold Act.put; dsimp only)
          refine tk (i := 2) (v := ?_) rfl (by kernel_rfl) (fun _ _ _ h => h) (Or.inl ⟨by first | kernel_rfl | rfl, ?_⟩) (by assumption) ?_
          rotate_left
          focus intro w hSw; (try dsimp only at hSw); go_simp; try with_reducible rfl
          try (unfold Act.put; dsimp only)
          refine tk (i := 3) (v := ?_) rfl (by kernel_rfl) (fun _ _ _ h => h) (Or.inl ⟨by first | kernel_rfl | rfl, ?_⟩) (by assumption) ?_
          rotate_left
          focus intro w hSw; (try dsimp only at hSw); go_simp; try with_reducible rfl
          try (unfold Act.put; dsimp only)
          refine tk (i := 4) (v := ?_) rfl (by kernel_rfl) (fun _ _ _ h => h) (Or.inl ⟨by first | kernel_rfl | rfl, ?_⟩) (by assumption) ?_
          rotate_left
          focus intro w hSw; (try dsimp only at hSw); go_simp; try with_reducible rfl
          try (unfold Act.put; dsimp only)
          refine tk (i := 5) (v := ?_) rfl (by kernel_rfl) (fun _ _ _ h => h) (Or.inl ⟨by first | kernel_rfl | rfl, ?_⟩) (by assumption) ?_
          rotate_left
          focus intro w hSw; (try dsimp only at hSw); go_simp; try with_reducible rfl
          try (unfold Act.put; dsimp only)
          refine tk (i := 6) (v := ?_) rfl (by kernel_rfl) (fun _ _ _ h => h) (Or.inl ⟨by first | kernel_rfl | rfl, ?_⟩) (by assumption) ?_
          rotate_left
          focus intro w hSw; (try dsimp only at hSw); go_simp; try with_reducible rfl
          try (unfold Act.put; dsimp only)
          refine tk (i := 7) (v := ?_) rfl (by kernel_rfl) (fun _ _ _ h => h) (Or.inl ⟨by first | kernel_rfl | rfl, ?_⟩) (by assumption) ?_
          rotate_left
          focus intro w hSw; (try dsimp only at hSw); go_simp; try with_reducible rfl
          try (unfold Act.put; dsimp only)
          refine wpAnyN_ready (rs := [8]) (by kernel_rfl) (by simp) ?_
          refine AllReadyN.cons rfl (fun K hK => ?_) ?_
          ·go_simp
           go_at_call 11
           refine (HO.out _).mono ?_
           rintro e wq ⟨rfl, rfl⟩
           dsimp only
           refine hK.out _ _ ?_ (fun hHeld => ?_)
           ·(try dsimp only)
            first
             | exact HS8.out
             | exact HS9.out
           clear hK K
           (try change wpAnyN _ _ _ _ _ _ _ _ (Act.put _ (some 181) _) _)
           try (unfold Act.put; dsimp only)
           refine tk (i := 9) (v := ?_) rfl (by kernel_rfl) (fun _ _ _ h => h) (Or.inl ⟨by first | kernel_rfl | rfl, ?_⟩) (by assumption) ?_
           rotate_left
           focus intro w hSw; (try dsimp only at hSw); go_simp; try with_reducible rfl
           try (unfold Act.put; dsimp only)
           refine wpAnyN_done (by kernel_rfl) ?_ _
           go_wp2
           go_roundw
           case rel => exact ⟨k + 1, HK1.out, by go_num, by first | exact HBF.out | exact HBF.out.drew | exact C20.below_drewN HBF.out _⟩
           case measure => simp [intOf]; omega
          exact AllReadyN.nil
         ·obtain rfl : m = k := by omega
          have HBR := Lib.hid (HBWx.out.trans (hbr.mono HBWx.out.size))
          clear hbr
          go_wp2
          go_ret
          exact ⟨rfl, HBR.out⟩
       ·by_cases q2 : F2 < m
        ·skip
         have herr2' : ErrIs w22 es 5 (F2 : Nat) := by rw [← HF2.out]; exact herr2
         have HE3 := Lib.hid (herr2'.below HB24.out)
         have hq : (F2 : Int) < (m : Int) := by omega
         have HBWx := Lib.hid (HBW22.out.trans (HB24.out.mono HBW22.out.size))
         have HC2 := Lib.hid (code_err es 5 F2 w24 HE3.out)
         have HA2 := Lib.hid (at_err es 5 F2 w24 HE3.out (HT.out.below HBWx.out).err)
         clear herr2 herr2' HSD
         go_wp2_with fail
         refine HC2.out.mono ?_
         rintro e w33 ⟨rfl, rfl⟩
         go_wp2_with fail
         refine HA2.out.mono ?_
         rintro e w34 ⟨rfl, hb34⟩
         have HB34 := Lib.hid (HBWx.out.trans (hb34.mono HBWx.out.size))
         clear hb34
         go_wp2
         go_ret
         exact ⟨rfl, HB34.out⟩
        ·obtain rfl : D = false := by rw [← HD.out]; exact decide_eq_false (by rcases hf2 with h | h; exact absurd (by rw [← HF2.out]; exact h) q2; exact h)
         have herr2' : ErrIs w22 es 5 (F2 : Nat) := by rw [← HF2.out]; exact herr2
         have HE3 := Lib.hid (herr2'.below HB24.out)
         have hq : ¬ (F2 : Int) < (m : Int) := by omega
         have HBWx := Lib.hid (HBW22.out.trans (HB24.out.mono HBW22.out.size))
         have HC2 := Lib.hid (code_err es 5 F2 w24 HE3.out)
         have HA2 := Lib.hid (at_err es 5 F2 w24 HE3.out (HT.out.below HBWx.out).err)
         clear herr2 herr2' HSD
         go_wp2_with fail
         refine HC2.out.mono ?_
         rintro e w33 ⟨rfl, rfl⟩
         go_wp2_with fail
         refine HA2.out.mono ?_
         rintro e w34 ⟨rfl, hb34⟩
         have HB34 := Lib.hid (HBWx.out.trans (hb34.mono HBWx.out.size))
         clear hb34
         go_wp2
         go_ret
         exact ⟨rfl, HB34.out⟩
      ·have q' : ¬ (F1 : Int) < (m : Int) := by omega
       have hz : ws.getD m [] ≠ [] := by rcases hf with h | h; exact absurd (by rw [← HF1.out]; exact h) q; exact h
       obtain rfl : D = false := by rw [← HD.out]; exact decide_eq_false hz
       have HZ := Lib.hid hz
       clear hf hz
       go_wp2_with fail
       refine HC.out.mono ?_
       rintro e w23 ⟨rfl, rfl⟩
       go_wp2_with fail
       refine HA.out.mono ?_
       rintro e w24 ⟨rfl, hb24⟩
       have HB24 := Lib.hid hb24
       clear hb24 HA HC
       rcases HSD.out with ⟨hz2, hf2, rfl, hnm, hown2⟩ | ⟨rfl, hf2, herr2⟩
       ·exact absurd hz2 HZ.out
       ·by_cases q2 : F2 < m
        ·skip
         have herr2' : ErrIs w22 es 5 (F2 : Nat) := by rw [← HF2.out]; exact herr2
         have HE3 := Lib.hid (herr2'.below HB24.out)
         have hq : (F2 : Int) < (m : Int) := by omega
         have HBWx := Lib.hid (HBW22.out.trans (HB24.out.mono HBW22.out.size))
         have HC2 := Lib.hid (code_err es 5 F2 w24 HE3.out)
         have HA2 := Lib.hid (at_err es 5 F2 w24 HE3.out (HT.out.below HBWx.out).err)
         clear herr2 herr2' HSD
         go_wp2_with fail
         refine HC2.out.mono ?_
         rintro e w33 ⟨rfl, rfl⟩
         go_wp2_with fail
         refine HA2.out.mono ?_
         rintro e w34 ⟨rfl, hb34⟩
         have HB34 := Lib.hid (HBWx.out.trans (hb34.mono HBWx.out.size))
         clear hb34
         go_wp2
         go_ret
         exact ⟨rfl, HB34.out⟩
        ·skip
         have herr2' : ErrIs w22 es 5 (F2 : Nat) := by rw [← HF2.out]; exact herr2
         have HE3 := Lib.hid (herr2'.below HB24.out)
         have hq : ¬ (F2 : Int) < (m : Int) := by omega
         have HBWx := Lib.hid (HBW22.out.trans (HB24.out.mono HBW22.out.size))
         have HC2 := Lib.hid (code_err es 5 F2 w24 HE3.out)
         have HA2 := Lib.hid (at_err es 5 F2 w24 HE3.out (HT.out.below HBWx.out).err)
         clear herr2 herr2' HSD
         go_wp2_with fail
         refine HC2.out.mono ?_
         rintro e w33 ⟨rfl, rfl⟩
         go_wp2_with fail
         refine HA2.out.mono ?_
         rintro e w34 ⟨rfl, hb34⟩
         have HB34 := Lib.hid (HBWx.out.trans (hb34.mono HBWx.out.size))
         clear hb34
         go_wp2
         go_ret
         exact ⟨rfl, HB34.out⟩
  ·obtain ⟨j, rfl⟩ : ∃ j, k = j + 1 := ⟨k - 1, by omega⟩
   have hjm : j < m := by omega
   have hjm' : (j : Int) < (m : Int) := by omega
   have hj0 : (0 : Int) ≤ (j : Int) := by omega
   rw [show (((j + 1 : Nat) : Int) - 1) = (j : Int) from by omega]
   obtain ⟨gw, ow, hA, hc⟩ := HRS.out.below hbr
   obtain ⟨rfl, lgw⟩ := hA (by rw [HM.out]; omega)
   have hck := hc j (by rw [HM.out]; omega)
   obtain ⟨L, hL⟩ : ∃ L, ws.getD j [] = L := ⟨_, rfl⟩
   have HL := Lib.hid hL
   have hLl : L.length ≤ 2000 := by rw [← hL]; exact HLL.out j
   rw [hL] at hck
   obtain ⟨f1, hf1⟩ : ∃ f, fb evQ ws m (m - (j + 1)) = f := ⟨_, rfl⟩
   obtain ⟨f2, hf2⟩ : ∃ f, fb enQ ws m (m - (j + 1)) = f := ⟨_, rfl⟩
   have HF1 := Lib.hid hf1
   have HF2 := Lib.hid hf2
   rw [hf1, hf2]
   have HP1 := Lib.hid (rparse_event (bsA L) wr (by rw [bs_size]; omega))
   rw [bsA_list, evD_eq] at HP1
   clear hA hc hL hf1 hf2 hbr hk0 hk
   have hckr := Lib.hid hck
   go_wp2_with fail
   refine HP1.out.mono ?_
   rintro e w3 ⟨hE3, hb3⟩
   obtain rfl := evD_ret hE3
   generalize evZ L = Z at *
   obtain ⟨z0, z1, z2, z3, z4, z5, z6⟩ := Z
   unfold evC
   simp only
   have hb4 : Below w3.heap.size w3 (w3.alloc (.cells #[.int .i64 z0, .int .i64 z1, .int .i64 z2, .int .i64 z3, .int .i64 z4, .int .i64 z5, .int .i64 z6] 44)) := (Below.refl _ _).alloc (Nat.le_refl _) _
   obtain ⟨w4, hw4⟩ : ∃ X, w3.alloc (.cells #[.int .i64 z0, .int .i64 z1, .int .i64 z2, .int .i64 z3, .int .i64 z4, .int .i64 z5, .int .i64 z6] 44) = X := ⟨_, rfl⟩
   rw [hw4] at hb4
   have HW4 := Lib.hid hw4
   have HBW4 := Lib.hid (hb3.trans (hb4.mono hb3.size))
   have HB4 := Lib.hid (HBR.out.trans (HBW4.out.mono HBR.out.size))
   have hck3 := cell_keep HBW4.out hck
   rw [← hw4] at hck3
   clear hE3 hb3 hb4 hw4 HP1 hck
   cases hq1 : (evP L).isSome with
   | true =>
    have HG1 := Lib.hid (show fb evQ ws m (m - j) = f1 from by rw [fb_step hjm, HL.out, if_pos (show evQ L = true from hq1), HF1.out])
    clear hq1
    go_wp2_with fail
    rw [HW4.out]
    clear hck3
    have HP2 := Lib.hid (rparse_entry (bsA L) w4 (by rw [bs_size]; omega))
    rw [bsA_list, entD_eq] at HP2
    have hck4 := cell_keep HBW4.out hckr.out
    go_wp2_with fail
    refine HP2.out.mono ?_
    rintro e w5 ⟨hE5, hb5⟩
    obtain rfl := enD_ret hE5
    generalize enZ L = Y at *
    obtain ⟨y0, y1, y2, y3, y4, y5⟩ := Y
    unfold entA
    simp only
    have hb5' := HB4.out.trans (hb5.mono HB4.out.size)
    have HB6 := Lib.hid (hb5'.alloc hb5'.size (.cells #[.int .i64 y0, .int .i64 y1, .int .i64 y2, .int .i64 y3, .int .i64 y4, .int .i64 y5] 25))
    clear hE5 hb5 hb5' hck4 HP2
    cases hq2 : (entP L).isSome with
    | true =>
     have HG2 := Lib.hid (show fb enQ ws m (m - j) = f2 from by rw [fb_step hjm, HL.out, if_pos (show enQ L = true from hq2), HF2.out])
     clear hq2
     go_wp2
     go_roundw
     case rel => exact ⟨j, by omega, by go_num, by rw [HG1.out], by rw [HG2.out], HB6.out⟩
     case measure => simp [intOf]
    | false =>
     have HG2 := Lib.hid (show fb enQ ws m (m - j) = j from by rw [fb_step hjm, HL.out, if_neg (by rw [show enQ L = false from hq2]; decide)])
     clear hq2
     go_wp2
     go_roundw
     case rel => exact ⟨j, by omega, by go_num, by rw [HG1.out], by rw [HG2.out], HB6.out⟩
     case measure => simp [intOf]
   | false =>
    have HG1 := Lib.hid (show fb evQ ws m (m - j) = j from by rw [fb_step hjm, HL.out, if_neg (by rw [show evQ L = false from hq1]; decide)])
    clear hq1
    go_wp2_with fail
    rw [HW4.out]
    clear hck3
    have HP2 := Lib.hid (rparse_entry (bsA L) w4 (by rw [bs_size]; omega))
    rw [bsA_list, entD_eq] at HP2
    have hck4 := cell_keep HBW4.out hckr.out
    go_wp2_with fail
    refine HP2.out.mono ?_
    rintro e w5 ⟨hE5, hb5⟩
    obtain rfl := enD_ret hE5
    generalize enZ L = Y at *
    obtain ⟨y0, y1, y2, y3, y4, y5⟩ := Y
    unfold entA
    simp only
    have hb5' := HB4.out.trans (hb5.mono HB4.out.size)
    have HB6 := Lib.hid (hb5'.alloc hb5'.size (.cells #[.int .i64 y0, .int .i64 y1, .int .i64 y2, .int .i64 y3, .int .i64 y4, .int .i64 y5] 25))
    clear hE5 hb5 hb5' hck4 HP2
    cases hq2 : (entP L).isSome with
    | true =>
     have HG2 := Lib.hid (show fb enQ ws m (m - j) = f2 from by rw [fb_step hjm, HL.out, if_pos (show enQ L = true from hq2), HF2.out])
     clear hq2
     go_wp2
     go_roundw
     case rel => exact ⟨j, by omega, by go_num, by rw [HG1.out], by rw [HG2.out], HB6.out⟩
     case measure => simp [intOf]
    | false =>
     have HG2 := Lib.hid (show fb enQ ws m (m - j) = j from by rw [fb_step hjm, HL.out, if_neg (by rw [show enQ L = false from hq2]; decide)])
     clear hq2
     go_wp2
     go_roundw
     case rel => exact ⟨j, by omega, by go_num, by rw [HG1.out], by rw [HG2.out], HB6.out⟩
     case measure => simp [intOf]
end Go.Proofs.YtjpjlfjaapfnkaaGreatDoor

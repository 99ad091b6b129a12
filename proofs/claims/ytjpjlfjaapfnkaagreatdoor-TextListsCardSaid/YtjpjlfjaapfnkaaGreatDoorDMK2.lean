/-
  text.write, Trace, Script; the document's Lines, Events. No conditions beyond those that each theorem states.
-/
import Derived.Test.YtjpjlfjaapfnkaaGreatDoorDMO
import Derived.Test.YtjpjlfjaapfnkaaGreatDoorDMS
import Derived.Test.YtjpjlfjaapfnkaaGreatDoorDMK
import Derived.Lib.AppendStr
import Derived.Laws.BytesArg
import Derived.Shelf.Bytes.SlSmallAll
import Derived.Deep.QuietTactic
import Derived.BigQuiet
set_option linter.unusedVariables false
set_option linter.unusedSimpArgs false
namespace Go.Proofs.YtjpjlfjaapfnkaaGreatDoor
open Go.ChangeShapes Go.WideShapes Go.ChangeAt Go.RowKit
open C20 (Ev formB evC)
def bI (l : List UInt8) : List Int := l.map fun b => (b.toNat : Int)
theorem bI_len (l : List UInt8) : (bI l).length = l.length := by simp [bI]
theorem bI_app (a b : List UInt8) : bI (a ++ b) = bI a ++ bI b := by simp [bI]
theorem str_bI (l : List UInt8) : Lib.strCells (bsA l) = numV .u8 (bI l) := by
 unfold Lib.strCells numV bI
 rw [bsA_list, List.map_map]
 rfl
theorem u8_parts : ∃ i, Tryz.prog.info? 5 = some i ∧ i.zero = some (.int .u8 0) ∧ i.size = 1 ∧ i.bytes = 1 :=
 info_parts (show (Tryz.prog.info? 5).map (fun i => (i.zero, i.size, i.bytes)) = some (some (.int .u8 0), 1, 1) by kernel_rfl)
def evLn (es : List Ev) : List UInt8 := es.flatMap fun e => evS e ++ [10]
def enLn (es : List Ent) : List UInt8 := es.flatMap fun e => entS e ++ [10]
theorem jn_len {c : UInt8} {k : Nat} : ∀ {ws : List (List UInt8)}, (∀ w ∈ ws, w.length ≤ k) → (jnL c ws).length ≤ ws.length * (k + 1)
 | [], _ => by simp [jnL]
 | [w], h => by have := h w (by simp); simp [jnL]; omega
 | w :: v :: r, h => by
  have h1 := h w (by simp)
  have h2 := jn_len (c := c) (k := k) (ws := v :: r) (fun x hx => h x (List.mem_cons_of_mem _ hx))
  rw [jn_cons c w (by simp)]
  simp only [List.length_append, List.length_cons] at h2 ⊢
  have e : (r.length + 1 + 1) * (k + 1) = (r.length + 1) * (k + 1) + (k + 1) := by rw [Nat.succ_mul]
  omega
theorem decI_len {x : Int} (h : x ≤ 99999999) : (decI x).length ≤ 16 := by
 have := dec_len (n := x.toNat) (k := 8) (by have e8 : (10 : Nat) ^ 8 = 100000000 := by decide
                                             rw [e8]; omega) (by omega)
 unfold decI; omega
theorem textI_len (t r : Int) : (textI t r).length ≤ 16 := by
 have h1 := dig_len t.toNat
 have h2 := dig_len r.toNat
 unfold textI textL
 split <;> simp <;> omega
theorem modeW_len (m : Int) : (modeW m).length ≤ 16 := by
 unfold modeW modeL; (repeat' split) <;> decide
theorem evName_len (k : Nat) : (evName k).length ≤ 16 := by unfold evName; split <;> simp
theorem entName_len (k : Nat) : (entName k).length ≤ 16 := by unfold entName; split <;> simp
theorem evW_len {e : Ev} (h : evOk e = true) : (∀ w ∈ evW e, w.length ≤ 16) ∧ (evW e).length ≤ 4 := by
 unfold evOk at h
 rw [Bool.and_eq_true, decide_eq_true_eq] at h
 obtain ⟨hf, hx⟩ := h
 refine ⟨?_, by unfold evW; (repeat' split) <;> simp⟩
 intro w hw
 have key : e.client ≤ 99999999 ∧ e.code ≤ 99999999 := by
  rcases form_cases hf with ⟨q, a, b, c⟩ | ⟨hk, q, a⟩ | ⟨q, a, b, c, d⟩ | ⟨hk, q, a⟩ | ⟨q, a, b, c⟩ | ⟨q, b, c⟩
  all_goals
   have k1 := congrArg Ev.client q
   have k2 := congrArg Ev.code q
   simp only at k1 k2
   omega
 obtain ⟨kc, kd⟩ := key
 unfold evW at hw
 (repeat' split at hw) <;> simp only [List.mem_cons, List.not_mem_nil, or_false] at hw
 all_goals
  first
  | (rcases hw with rfl | rfl | rfl | rfl <;> first | exact evName_len _ | exact decI_len (by omega) | exact textI_len _ _ | exact modeW_len _)
  | (rcases hw with rfl | rfl | rfl <;> first | exact evName_len _ | exact decI_len (by omega) | exact textI_len _ _ | exact modeW_len _)
  | (rcases hw with rfl | rfl <;> first | exact evName_len _ | exact decI_len (by omega) | exact textI_len _ _ | exact modeW_len _)
theorem evS_len (e : Ev) : (evS e).length ≤ 1000 := by
 unfold evS
 split
 ·rename_i h
  obtain ⟨h1, h2⟩ := evW_len h
  have := jn_len (c := 32) h1
  have h3 : (evW e).length * (16 + 1) ≤ 4 * 17 := Nat.mul_le_mul h2 (Nat.le_refl _)
  unfold evT; omega
 ·simp
theorem entW_len {e : Ent} (h : e.may = true) : (∀ w ∈ entW e, w.length ≤ 16) ∧ (entW e).length ≤ 4 := by
 refine ⟨?_, by unfold entW; (repeat' split) <;> simp⟩
 intro w hw
 have key : e.c ≤ 99999999 ∧ e.p ≤ 99999999 := by
  rcases may_cases h with ⟨hk, q⟩ | ⟨q, a1, a2, b1, b2, c1, c2, d1, d2⟩ | ⟨hk, q, a1, a2⟩ | ⟨hk, q, a1, a2⟩
  all_goals
   have k1 := congrArg Ent.c q
   have k2 := congrArg Ent.p q
   simp only at k1 k2
   omega
 obtain ⟨kc, kd⟩ := key
 unfold entW at hw
 (repeat' split at hw) <;> simp only [List.mem_cons, List.not_mem_nil, or_false] at hw
 ·subst hw; exact entName_len _
 ·rcases hw with rfl | rfl | rfl | rfl
  ·exact entName_len _
  ·exact decI_len (by omega)
  ·exact textI_len _ _
  ·exact modeW_len _
 ·rcases hw with rfl | rfl
  ·exact entName_len _
  ·exact decI_len (by omega)
 ·rcases hw with rfl | rfl
  ·exact entName_len _
  ·exact decI_len (by omega)
theorem entS_len (e : Ent) : (entS e).length ≤ 1000 := by
 unfold entS
 split
 ·rename_i h
  obtain ⟨h1, h2⟩ := entW_len h
  have := jn_len (c := 32) h1
  have h3 : (entW e).length * (16 + 1) ≤ 4 * 17 := Nat.mul_le_mul h2 (Nat.le_refl _)
  unfold entT; omega
 ·simp
theorem evLn_len : ∀ es : List Ev, (evLn es).length ≤ 1001 * es.length
 | [] => by simp [evLn]
 | e :: r => by
  have h1 := evS_len e
  have h2 := evLn_len r
  rw [show evLn (e :: r) = (evS e ++ [10]) ++ evLn r from rfl]
  simp only [List.length_append, List.length_cons, List.length_nil]
  omega
theorem enLn_len : ∀ es : List Ent, (enLn es).length ≤ 1001 * es.length
 | [] => by simp [enLn]
 | e :: r => by
  have h1 := entS_len e
  have h2 := enLn_len r
  rw [show enLn (e :: r) = (entS e ++ [10]) ++ enLn r from rfl]
  simp only [List.length_append, List.length_cons, List.length_nil]
  omega
theorem ev_take {l : List Ev} {k : Nat} (h : k < l.length) : evLn (l.take (k + 1)) = evLn (l.take k) ++ evS (l.getD k C20.Ev.none) ++ [10] := by
 rw [List.take_succ_eq_append_getElem h, List.getD_eq_getElem?_getD, List.getElem?_eq_getElem h]
 unfold evLn
 rw [List.flatMap_append]
 simp
theorem en_take {l : List Ent} {k : Nat} (h : k < l.length) : enLn (l.take (k + 1)) = enLn (l.take k) ++ entS (l.getD k Ent.none) ++ [10] := by
 rw [List.take_succ_eq_append_getElem h, List.getD_eq_getElem?_getD, List.getElem?_eq_getElem h]
 unfold enLn
 rw [List.flatMap_append]
 simp
def WrIs (W w' : World) (e : Ending) (n : Nat) (ok : Nat → Bool) (code : Nat → Int) (L : List UInt8) : Prop :=
 ((∀ j, j < n → ok j = true) ∧ ∃ v, e = .returned (.tuple #[v, .nilIface]) ∧ w'.ownsRow W.heap.size 5 1 v L.length (numV .u8 (bI L))) ∨
 ∃ i b, i < n ∧ (∀ j, j < i → ok j = true) ∧ ok i = false ∧ e = .returned (.tuple #[.slice none 0 0, .iface 97 (.pointer (some ⟨b, 0, none⟩))]) ∧
  w'.cell? ⟨b, 0, none⟩ = some (.int .i64 (i : Int)) ∧ w'.cell? ⟨b, 1, none⟩ = some (.iface 70 (.int .i64 (code i)))
set_option maxRecDepth 100000 in
set_option maxHeartbeats 4000000 in
theorem write_ev (A : Option Addr) (n c : Nat) (es : List Ev) (W : World) (hT : TxW W) (hr : C20.RdE W A es) (hl : es.length = n) (hn : n ≤ 3000) :
 Calls Tryz.prog 61 #[.slice A n c, .func (.func 16) #[] #[]] W fun e w' => WrIs W w' e n (fun j => evOk (es.getD j C20.Ev.none)) (fun j => evE (es.getD j C20.Ev.none)) (evLn es) ∧ Below W.heap.size W w' := by
 have HT := Lib.hid hT
 have HR := Lib.hid hr
 have HL := Lib.hid hl
 clear hT hr hl
 obtain ⟨iu, hu0, hu1, hu2, hu3⟩ := u8_parts
 have HU0 := Lib.hid hu0
 have HU1 := Lib.hid hu1
 have HU2 := Lib.hid hu2
 have HU3 := Lib.hid hu3
 clear hu0 hu1 hu2 hu3
 go_enter Tryz.func61, Tryz.ntmps61
 go_wp2
 go_loopw [6, 13] (fun vo i wr => ∃ k : Nat, k ≤ n ∧ i = .int .i64 k ∧ Below W.heap.size W wr ∧ (∀ j, j < k → evOk (es.getD j C20.Ev.none) = true) ∧ wr.ownsRow W.heap.size 5 1 vo (evLn (es.take k)).length (numV .u8 (bI (evLn (es.take k))))) (fun _ i _ => n - (intOf i).toNat)
 case atStart => exact ⟨0, Nat.zero_le _, rfl, Below.refl _ _, fun j hj => by omega, ⟨rfl, .inl ⟨rfl, rfl⟩⟩⟩
 case round =>
  obtain ⟨k, hk, rfl, hbr, hok, how⟩ := hrel
  have hbs := hbr.size
  have HOK := Lib.hid hok
  have HBR := Lib.hid hbr
  have HOW := Lib.hid how
  clear hok how
  by_cases hlt : k < n
  ·have hlt' : (k : Int) < n := by omega
   obtain ⟨ge, oe, hA, hc⟩ := HR.out.below HBR.out (Nat.le_refl _)
   obtain ⟨rfl, lge⟩ := hA (by rw [HL.out] <;> omega)
   obtain ⟨p0, p1, p2, p3, p4, p5, p6⟩ := hc k (by rw [HL.out] <;> exact hlt)
   have hkl : k < es.length := by rw [HL.out]; exact hlt
   have HKL := Lib.hid hkl
   clear hA hc hkl hbr
   obtain ⟨E, hE⟩ : ∃ E, es.getD k C20.Ev.none = E := ⟨_, rfl⟩
   have HE := Lib.hid hE
   rw [hE] at p0 p1 p2 p3 p4 p5 p6
   clear hE
   have hbE : Below wr.heap.size wr (wr.alloc (.cells #[.int .i64 E.kind, .int .i64 E.client, .int .i64 E.tx, .int .i64 E.table, .int .i64 E.row, .int .i64 E.mode, .int .i64 E.code] 44)) := (Below.refl _ _).alloc (Nat.le_refl _) _
   have hbE' := HBR.out.trans (hbE.mono hbs)
   have HC := Lib.hid (event_any E _ (HT.out.below hbE'))
   have HBE := Lib.hid hbE'
   have HOE := Lib.hid (own_below HOW.out hbE)
   unfold evC at HC
   clear hbE hbE'
   by_cases hok : evOk E = true
   ·have HC' := Lib.hid HC.out
    rw [show errV (evE E) = .nilIface from by rw [evE_ok hok] <;> rfl] at HC'
    have HOKE := Lib.hid hok
    clear hok HC
    obtain ⟨X, hX⟩ : ∃ X, bsA (evS E) = X := ⟨_, rfl⟩
    rw [hX] at HC'
    have HX := Lib.hid hX
    clear hX
    go_wp2_with fail
    refine HC'.out.mono ?_
    rintro e w5 ⟨rfl, hb5⟩
    have hb5' := HBE.out.trans (hb5.mono HBE.out.size)
    have how5 := own_below HOE.out hb5
    have hln := evLn_len (es.take k)
    have htl : (es.take k).length ≤ 3000 := by rw [List.length_take]; omega
    have hxs : X.size ≤ 1000 := by rw [← HX.out, bs_size]; exact evS_len E
    have HS5 := Lib.hid (Nat.le_trans (Nat.le_of_eq rfl) hb5'.size)
    have HB5 := Lib.hid hb5'
    have HSZ := Lib.hid (show (evLn (es.take k)).length + X.size ≤ 4000000 from by omega)
    clear hb5 hb5' HOE
    go_wp2_with (first | (at_builtin; refine Lib.wpList_append_own_string _ rfl _ _ _ _ rfl W.heap.size 5 iu Tryz.underlying57 Tryz.underlying9 HU0.out HU1.out HU2.out HU3.out _ _ _ rfl how5 X rfl (by have := HSZ.out; unfold maxLen; omega) (by have := HSZ.out; omega) HS5.out ?_; intro v6 w6 hown6 hg6 hnil6; have HB6 := Lib.hid (Below.grown HB5.out hg6 HS5.out (fun q hq => (how5.lt q hq).1)); have hown6' := World.ownsRow.alloc hown6 (.cells #[.int .u8 10] 5); have HB6' := Lib.hid (HB6.out.alloc HB6.out.size (.cells #[.int .u8 10] 5))) | (at_builtin; refine wpList_append_nums (k := .u8) (sz := 1) rfl _ _ rfl rfl Tryz.underlying57 (by kernel_rfl) (by decide) W.heap.size _ _ _ rfl hown6' _ 1 1 [10] rfl rfl (rdn_one .u8 w6 10 5) HB6'.out.size (by have := HSZ.out; omega) ?_; intro v7 w7 hown7 hg7; have HB7 := Lib.hid (Below.grown HB6'.out hg7 HB6'.out.size (fun q hq => (hown6'.lt q hq).1))))
    have hl7 : (evLn (es.take k)).length + X.size + 1 = (evLn (es.take (k + 1))).length := by
     rw [ev_take HKL.out, HE.out, ← HX.out, bs_size]; simp; omega
    have hx7 : numV .u8 (bI (evLn (es.take k))) ++ Lib.strCells X ++ numV .u8 [10] = numV .u8 (bI (evLn (es.take (k + 1)))) := by
     rw [ev_take HKL.out, HE.out, ← HX.out, str_bI, bI_app, bI_app, numV_append, numV_append]; rfl
    rw [hl7, hx7] at hown7
    have HO7 := Lib.hid hown7
    have HON := Lib.hid (show ∀ j, j < k + 1 → evOk (es.getD j C20.Ev.none) = true from fun j hj => by
     rcases Nat.lt_or_ge j k with x | x
     ·exact HOK.out j x
     ·obtain rfl : j = k := by omega
      rw [HE.out]; exact HOKE.out)
    clear hl7 hx7 hown7 hg7 hown6 hown6' hg6 hnil6 how5 htl hxs hln
    go_wp2
    go_roundw
    case rel => exact ⟨k + 1, by omega, by go_num, HB7.out, HON.out, HO7.out⟩
    case measure => simp [intOf]; omega
   ·have HNE := Lib.hid hok
    have HC' := Lib.hid HC.out
    rw [show errV (evE E) = .iface 70 (.int .i64 (evE E)) from by unfold errV <;> rw [if_neg (by rcases evE_no hok with h | h <;> omega)]] at HC'
    clear hok HC
    go_wp2_with fail
    refine HC'.out.mono ?_
    rintro e w5 ⟨rfl, hb5⟩
    have HB5 := Lib.hid (HBE.out.trans (hb5.mono HBE.out.size))
    have HB6 := Lib.hid (HB5.out.alloc HB5.out.size (.cells #[.int .i64 (k : Int), .iface 70 (.int .i64 (evE E))] 101))
    clear hb5
    go_wp2
    go_ret2
    refine ⟨.inr ⟨k, w5.heap.size, hlt, HOK.out, by (show evOk (es.getD k C20.Ev.none) = false); rw [HE.out]; simpa using HNE.out, rfl, by simp, ?_⟩, HB6.out⟩
    dsimp only
    rw [HE.out]; simp
  ·obtain rfl : k = n := by omega
   have hnn : ¬ (k : Int) < k := by omega
   have htk : es.take k = es := List.take_of_length_le (by rw [HL.out]; exact Nat.le_refl _)
   go_wp2
   go_ret2
   have := HOW.out
   rw [htk] at this
   exact ⟨.inl ⟨HOK.out, _, rfl, this⟩, HBR.out⟩
set_option maxRecDepth 100000 in
set_option maxHeartbeats 4000000 in
theorem write_en (A : Option Addr) (n c : Nat) (es : List Ent) (W : World) (hT : TxW W) (hr : RdEo W A es) (hl : es.length = n) (hn : n ≤ 3000) :
 Calls Tryz.prog 63 #[.slice A n c, .func (.func 10) #[] #[]] W fun e w' => WrIs W w' e n (fun j => Ent.may (es.getD j Ent.none)) (fun j => entE (es.getD j Ent.none)) (enLn es) ∧ Below W.heap.size W w' := by
 have HT := Lib.hid hT
 have HR := Lib.hid hr
 have HL := Lib.hid hl
 clear hT hr hl
 obtain ⟨iu, hu0, hu1, hu2, hu3⟩ := u8_parts
 have HU0 := Lib.hid hu0
 have HU1 := Lib.hid hu1
 have HU2 := Lib.hid hu2
 have HU3 := Lib.hid hu3
 clear hu0 hu1 hu2 hu3
 go_enter Tryz.func63, Tryz.ntmps63
 go_wp2
 go_loopw [6, 13] (fun vo i wr => ∃ k : Nat, k ≤ n ∧ i = .int .i64 k ∧ Below W.heap.size W wr ∧ (∀ j, j < k → Ent.may (es.getD j Ent.none) = true) ∧ wr.ownsRow W.heap.size 5 1 vo (enLn (es.take k)).length (numV .u8 (bI (enLn (es.take k))))) (fun _ i _ => n - (intOf i).toNat)
 case atStart => exact ⟨0, Nat.zero_le _, rfl, Below.refl _ _, fun j hj => by omega, ⟨rfl, .inl ⟨rfl, rfl⟩⟩⟩
 case round =>
  obtain ⟨k, hk, rfl, hbr, hok, how⟩ := hrel
  have hbs := hbr.size
  have HOK := Lib.hid hok
  have HBR := Lib.hid hbr
  have HOW := Lib.hid how
  clear hok how
  by_cases hlt : k < n
  ·have hlt' : (k : Int) < n := by omega
   obtain ⟨ge, oe, hA, hc⟩ := HR.out.below HBR.out
   obtain ⟨rfl, lge⟩ := hA (by rw [HL.out] <;> omega)
   obtain ⟨p0, p1, p2, p3, p4, p5⟩ := hc k (by rw [HL.out] <;> exact hlt)
   have hkl : k < es.length := by rw [HL.out]; exact hlt
   have HKL := Lib.hid hkl
   clear hA hc hkl hbr
   obtain ⟨E, hE⟩ : ∃ E, es.getD k Ent.none = E := ⟨_, rfl⟩
   have HE := Lib.hid hE
   rw [hE] at p0 p1 p2 p3 p4 p5
   clear hE
   have hbE : Below wr.heap.size wr (wr.alloc (.cells #[.int .i64 E.k, .int .i64 E.c, .int .i64 E.t, .int .i64 E.r, .int .i64 E.m, .int .i64 E.p] 33)) := (Below.refl _ _).alloc (Nat.le_refl _) _
   have hbE' := HBR.out.trans (hbE.mono hbs)
   have HC := Lib.hid (entry_any E _ (HT.out.below hbE'))
   have HBE := Lib.hid hbE'
   have HOE := Lib.hid (own_below HOW.out hbE)
   unfold entA at HC
   clear hbE hbE'
   by_cases hok : Ent.may E = true
   ·have HC' := Lib.hid HC.out
    rw [show errV (entE E) = .nilIface from by rw [show entE E = 0 from if_pos hok] <;> rfl] at HC'
    have HOKE := Lib.hid hok
    clear hok HC
    obtain ⟨X, hX⟩ : ∃ X, bsA (entS E) = X := ⟨_, rfl⟩
    rw [hX] at HC'
    have HX := Lib.hid hX
    clear hX
    go_wp2_with fail
    refine HC'.out.mono ?_
    rintro e w5 ⟨rfl, hb5⟩
    have hb5' := HBE.out.trans (hb5.mono HBE.out.size)
    have how5 := own_below HOE.out hb5
    have hln := enLn_len (es.take k)
    have htl : (es.take k).length ≤ 3000 := by rw [List.length_take]; omega
    have hxs : X.size ≤ 1000 := by rw [← HX.out, bs_size]; exact entS_len E
    have HS5 := Lib.hid (Nat.le_trans (Nat.le_of_eq rfl) hb5'.size)
    have HB5 := Lib.hid hb5'
    have HSZ := Lib.hid (show (enLn (es.take k)).length + X.size ≤ 4000000 from by omega)
    clear hb5 hb5' HOE
    go_wp2_with (first | (at_builtin; refine Lib.wpList_append_own_string _ rfl _ _ _ _ rfl W.heap.size 5 iu Tryz.underlying57 Tryz.underlying9 HU0.out HU1.out HU2.out HU3.out _ _ _ rfl how5 X rfl (by have := HSZ.out; unfold maxLen; omega) (by have := HSZ.out; omega) HS5.out ?_; intro v6 w6 hown6 hg6 hnil6; have HB6 := Lib.hid (Below.grown HB5.out hg6 HS5.out (fun q hq => (how5.lt q hq).1)); have hown6' := World.ownsRow.alloc hown6 (.cells #[.int .u8 10] 5); have HB6' := Lib.hid (HB6.out.alloc HB6.out.size (.cells #[.int .u8 10] 5))) | (at_builtin; refine wpList_append_nums (k := .u8) (sz := 1) rfl _ _ rfl rfl Tryz.underlying57 (by kernel_rfl) (by decide) W.heap.size _ _ _ rfl hown6' _ 1 1 [10] rfl rfl (rdn_one .u8 w6 10 5) HB6'.out.size (by have := HSZ.out; omega) ?_; intro v7 w7 hown7 hg7; have HB7 := Lib.hid (Below.grown HB6'.out hg7 HB6'.out.size (fun q hq => (hown6'.lt q hq).1))))
    have hl7 : (enLn (es.take k)).length + X.size + 1 = (enLn (es.take (k + 1))).length := by
     rw [en_take HKL.out, HE.out, ← HX.out, bs_size]; simp; omega
    have hx7 : numV .u8 (bI (enLn (es.take k))) ++ Lib.strCells X ++ numV .u8 [10] = numV .u8 (bI (enLn (es.take (k + 1)))) := by
     rw [en_take HKL.out, HE.out, ← HX.out, str_bI, bI_app, bI_app, numV_append, numV_append]; rfl
    rw [hl7, hx7] at hown7
    have HO7 := Lib.hid hown7
    have HON := Lib.hid (show ∀ j, j < k + 1 → Ent.may (es.getD j Ent.none) = true from fun j hj => by
     rcases Nat.lt_or_ge j k with x | x
     ·exact HOK.out j x
     ·obtain rfl : j = k := by omega
      rw [HE.out]; exact HOKE.out)
    clear hl7 hx7 hown7 hg7 hown6 hown6' hg6 hnil6 how5 htl hxs hln
    go_wp2
    go_roundw
    case rel => exact ⟨k + 1, by omega, by go_num, HB7.out, HON.out, HO7.out⟩
    case measure => simp [intOf]; omega
   ·have HNE := Lib.hid hok
    have HC' := Lib.hid HC.out
    rw [show errV (entE E) = .iface 70 (.int .i64 (entE E)) from by rw [show entE E = 5 from if_neg hok] <;> rfl] at HC'
    clear hok HC
    go_wp2_with fail
    refine HC'.out.mono ?_
    rintro e w5 ⟨rfl, hb5⟩
    have HB5 := Lib.hid (HBE.out.trans (hb5.mono HBE.out.size))
    have HB6 := Lib.hid (HB5.out.alloc HB5.out.size (.cells #[.int .i64 (k : Int), .iface 70 (.int .i64 (entE E))] 101))
    clear hb5
    go_wp2
    go_ret2
    refine ⟨.inr ⟨k, w5.heap.size, hlt, HOK.out, by (show Ent.may (es.getD k Ent.none) = false); rw [HE.out]; simpa using HNE.out, rfl, by simp, ?_⟩, HB6.out⟩
    dsimp only
    rw [HE.out]; simp
  ·obtain rfl : k = n := by omega
   have hnn : ¬ (k : Int) < k := by omega
   have htk : es.take k = es := List.take_of_length_le (by rw [HL.out]; exact Nat.le_refl _)
   go_wp2
   go_ret2
   have := HOW.out
   rw [htk] at this
   exact ⟨.inl ⟨HOK.out, _, rfl, this⟩, HBR.out⟩
end Go.Proofs.YtjpjlfjaapfnkaaGreatDoor
namespace Go.Proofs.YtjpjlfjaapfnkaaGreatDoor
open Go.ChangeShapes Go.WideShapes Go.ChangeAt Go.RowKit
open C20 (Ev formB evC)
theorem trace_any (A : Option Addr) (n c : Nat) (es : List Ev) (W : World) (hT : TxW W) (hr : C20.RdE W A es) (hl : es.length = n) (hn : n ≤ 3000) :
 Calls Tryz.prog 20 #[.slice A n c] W fun e w' => WrIs W w' e n (fun j => evOk (es.getD j C20.Ev.none)) (fun j => evE (es.getD j C20.Ev.none)) (evLn es) ∧ Below W.heap.size W w' := by
 have HW := Lib.hid (write_ev A n c es W hT hr hl hn)
 clear hT hr hl hn
 go_enter Tryz.func20, Tryz.ntmps20
 go_wp2_with fail
 refine HW.out.mono ?_
 rintro e w1 ⟨h, hb⟩
 rcases h with ⟨ho, v, rfl, hown⟩ | ⟨i, b, h1, h2, h3, rfl, h4, h5⟩
 ·go_wp2
  go_ret2
  exact ⟨.inl ⟨ho, v, rfl, hown⟩, hb⟩
 ·have H4 := Lib.hid h4
  have H5 := Lib.hid h5
  clear h4 h5
  go_wp2
  go_ret2
  exact ⟨.inr ⟨i, b, h1, h2, h3, rfl, H4.out, H5.out⟩, hb⟩
theorem script_any (A : Option Addr) (n c : Nat) (es : List Ent) (W : World) (hT : TxW W) (hr : RdEo W A es) (hl : es.length = n) (hn : n ≤ 3000) :
 Calls Tryz.prog 22 #[.slice A n c] W fun e w' => WrIs W w' e n (fun j => Ent.may (es.getD j Ent.none)) (fun j => entE (es.getD j Ent.none)) (enLn es) ∧ Below W.heap.size W w' := by
 have HW := Lib.hid (write_en A n c es W hT hr hl hn)
 clear hT hr hl hn
 go_enter Tryz.func22, Tryz.ntmps22
 go_wp2_with fail
 refine HW.out.mono ?_
 rintro e w1 ⟨h, hb⟩
 rcases h with ⟨ho, v, rfl, hown⟩ | ⟨i, b, h1, h2, h3, rfl, h4, h5⟩
 ·go_wp2
  go_ret2
  exact ⟨.inl ⟨ho, v, rfl, hown⟩, hb⟩
 ·have H4 := Lib.hid h4
  have H5 := Lib.hid h5
  clear h4 h5
  go_wp2
  go_ret2
  exact ⟨.inr ⟨i, b, h1, h2, h3, rfl, H4.out, H5.out⟩, hb⟩
theorem nums_bI (l : List UInt8) : strOfNums (bI l) = bsA l := by
 unfold strOfNums bI bsA
 rw [List.map_map]
 congr 1
 congr 1
 conv => rhs; rw [← List.map_id l]
 apply List.map_congr_left
 intro a _
 simp
theorem conv_bI {w : World} {A : Option Addr} {l : List UInt8} {n c : Nat} (h : RdN .u8 w A (bI l)) (hl : l.length = n) :
 (convert 57 9 (.slice A n c)).run Tryz.prog w = .ok (.string (bsA l)) w := by
 by_cases h0 : n = 0
 ·subst h0
  obtain rfl : l = [] := List.eq_nil_of_length_eq_zero hl
  exact run_convert_bytes_zero w _ _ Tryz.underlying57 Tryz.underlying5 A c _ Tryz.underlying9
 ·obtain ⟨g, off, hA, hc⟩ := h
  obtain ⟨rfl, _⟩ := hA (by rw [bI_len]; omega)
  have := run_convert_bytes_arg w _ _ Tryz.underlying57 Tryz.underlying5 g off n c (bI l) (by rw [bI_len]; exact hl) (fun i hi => hc i (by rw [bI_len]; omega)) _ Tryz.underlying9
  rwa [nums_bI] at this
set_option maxRecDepth 100000 in
set_option maxHeartbeats 2000000 in
theorem lines_any (A : Option Addr) (n c : Nat) (bs : List UInt8) (W : World) (hr : RdN .u8 W A (bI bs)) (hl : bs.length = n) (hn : n ≤ 100000) :
 Calls Tryz.prog 64 #[.slice A n c] W fun e w' => (∃ A' cp, e = .returned (.tuple #[.slice A' ((spL 10 bs).length - 1) cp, .bool (decide ((spL 10 bs).getD ((spL 10 bs).length - 1) [] = []))]) ∧ RdS w' A' (spL 10 bs)) ∧ Below W.heap.size W w' := by
 have hcv := conv_bI (c := c) hr hl
 have HSP := Lib.hid (rsplit_any (bsA bs) 10 W (by rw [bs_size]; omega))
 rw [bsA_list] at HSP
 obtain ⟨m, hm⟩ : ∃ m, (spL 10 bs).length = m + 1 := by
  cases h : spL 10 bs with
  | nil => exact absurd h (sp_ne _ _)
  | cons a b => exact ⟨b.length, rfl⟩
 have hml : m ≤ 100000 := by have := sp_length 10 bs; omega
 have HM := Lib.hid hm
 obtain ⟨ws, hws⟩ : ∃ ws, spL 10 bs = ws := ⟨_, rfl⟩
 rw [hws] at HSP HM ⊢
 clear hr hl hn hm hws
 go_enter Tryz.func64, Tryz.ntmps64
 go_wp2_with fail
 refine HSP.out.mono ?_
 rintro e w1 ⟨⟨v, rfl, hown⟩, hb1⟩
 obtain ⟨hl, A', cp, rfl, hcp, hrd⟩ := rds_of_own hown
 rw [HM.out] at hcp ⊢
 obtain ⟨g, o, hA, hc⟩ := hrd
 obtain ⟨rfl, hg⟩ := hA (by rw [HM.out]; omega)
 have hcl := hc m (by rw [HM.out]; omega)
 obtain ⟨L, hL⟩ : ∃ L, ws.getD m [] = L := ⟨_, rfl⟩
 have HL := Lib.hid hL
 rw [hL] at hcl
 have HRD := Lib.hid (show RdS w1 (some ⟨g, o, none⟩) ws from ⟨g, o, fun _ => ⟨rfl, hg⟩, hc⟩)
 have HB1 := Lib.hid hb1
 clear hA hc hL hown hl hb1 hg HSP
 have h1 : m < m + 1 := by omega
 have h2 : (m : Int) ≤ (cp : Int) := by omega
 have h3 : m ≤ cp := by omega
 have h4 : (m : Int) < (m : Int) + 1 := by omega
 have hbe : (bsA L).toList.isEmpty = decide (L = []) := by
  rw [bs_list]
  cases L <;> simp
 obtain ⟨D, hD⟩ : ∃ D, decide (L = []) = D := ⟨_, rfl⟩
 rw [hD] at hbe
 have HD := Lib.hid hD
 clear hD
 go_wp2
 go_quiet (fail)
 go_wp2
 go_ret2
 rw [HM.out, show m + 1 - 1 = m from rfl, HL.out, HD.out]
 exact ⟨⟨_, _, rfl, HRD.out.below (C20.below_drewN (Below.refl _ _) _)⟩, C20.below_drewN HB1.out _⟩
set_option maxRecDepth 100000 in
set_option maxHeartbeats 2000000 in
theorem revents_true (A B : Option Addr) (n c d : Nat) (xs ys : List Ev) (W : World) (ha : C20.RdE W A xs) (hb : C20.RdE W B ys) (hla : xs.length = n) (hlb : ys.length = n) (hn : n ≤ 100000) (he : ∀ k, k < n → xs.getD k C20.Ev.none = ys.getD k C20.Ev.none) :
 Calls Tryz.prog 25 #[.slice A n c, .slice B n d] W fun e w' => e = .returned (.bool true) ∧ Below W.heap.size W w' := by
 have HA := Lib.hid ha
 have HB := Lib.hid hb
 have HLA := Lib.hid hla
 have HLB := Lib.hid hlb
 have HE := Lib.hid he
 clear ha hb hla hlb he
 go_enter Tryz.func25, Tryz.ntmps25
 go_wp2
 go_loopw [5] (fun i wr => ∃ k : Nat, k ≤ n ∧ i = .int .i64 k ∧ Below W.heap.size W wr) (fun i _ => n - (intOf i).toNat)
 case atStart => exact ⟨0, Nat.zero_le _, rfl, Below.refl _ _⟩
 case round =>
  obtain ⟨k, hk, rfl, hbr⟩ := hrel
  by_cases hlt : k < n
  ·have hlt' : (k : Int) < n := by omega
   have hk0 : (0 : Int) ≤ k := by omega
   obtain ⟨ga, oa, hA, hca⟩ := HA.out.below hbr (Nat.le_refl _)
   obtain ⟨rfl, lga⟩ := hA (by rw [HLA.out]; omega)
   obtain ⟨gb, ob, hB, hcb⟩ := HB.out.below hbr (Nat.le_refl _)
   obtain ⟨rfl, lgb⟩ := hB (by rw [HLB.out]; omega)
   obtain ⟨p0, p1, p2, p3, p4, p5, p6⟩ := hca k (by rw [HLA.out]; exact hlt)
   obtain ⟨q0, q1, q2, q3, q4, q5, q6⟩ := hcb k (by rw [HLB.out]; exact hlt)
   rw [← HE.out k hlt] at q0 q1 q2 q3 q4 q5 q6
   generalize xs.getD k C20.Ev.none = E at *
   obtain ⟨e0, e1, e2, e3, e4, e5, e6⟩ := E
   simp only at p0 p1 p2 p3 p4 p5 p6 q0 q1 q2 q3 q4 q5 q6
   have HBR := Lib.hid hbr
   clear hA hB hca hcb hbr
   go_wp2
   go_quiet (fail)
   go_wp2
   go_roundw
   case rel => exact ⟨k + 1, by omega, by go_num, C20.below_drewN HBR.out _⟩
   case measure => simp [intOf]; omega
  ·obtain rfl : k = n := by omega
   have hnn : ¬ (k : Int) < k := by omega
   go_wp2
   go_ret
   exact ⟨rfl, hbr⟩
end Go.Proofs.YtjpjlfjaapfnkaaGreatDoor

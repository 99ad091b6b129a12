/-
  text.line, text.place; the map of functions. No conditions beyond those that each theorem states.
-/
import Derived.Test.YtjpjlfjaapfnkaaGreatDoorDMK
import Derived.Test.YtjpjlfjaapfnkaaGreatDoorDMF
import Derived.Test.YtjpjlfjaapfnkaaGreatDoorDME
import Derived.Maps.OwnIn
import Derived.Maps.OwnSet
set_option linter.unusedVariables false
set_option linter.unusedSimpArgs false
namespace Go.Proofs.YtjpjlfjaapfnkaaGreatDoor
open Go.ChangeShapes Go.WideShapes Go.ChangeAt Go.RowKit
theorem jn_join (c : UInt8) : ∀ ws, jnL c ws = Lib.join ws [c] := by
 intro ws
 induction ws with
 | nil => rfl
 | cons w r ih =>
  cases r with
  | nil => rw [Lib.join_one]; rfl
  | cons v u =>
   rw [jn_cons c w (by simp), ih, Lib.join_cons, Lib.join_cons]
   simp [Lib.joinTail]
theorem own_one (W : World) (l : List UInt8) (T : TypeId) (B : Nat) (hB : B ≤ W.heap.size) : (W.alloc (.cells #[.string (bsA l)] T)).ownsRow B T 1 (.slice (some ⟨W.heap.size, 0, none⟩) 1 1) 1 (strV [l]) :=
 ⟨rfl, .inr ⟨W.heap.size, 1, #[.string (bsA l)], rfl, hB, by rw [heap_push, if_pos rfl], Nat.le_refl _, by unfold maxLen; omega, rfl, rfl⟩⟩
set_option maxHeartbeats 1000000 in
theorem line_any (x : List UInt8) (A : Option Addr) (n c : Nat) (ws : List (List UInt8)) (W : World) (h : RdS W A ws) (hl : ws.length = n) (hn : n ≤ 100) (hj : (jnL 32 (x :: ws)).length ≤ 1000000) :
 Calls Tryz.prog 29 #[.string (bsA x), .slice A n c] W fun e w' => e = .returned (.string (bsA (jnL 32 (x :: ws)))) ∧ Below W.heap.size W w' := by
 have hbA : Below W.heap.size W (W.alloc (.cells #[.string (bsA x)] 9)) := (Below.refl _ _).alloc (Nat.le_refl _) _
 have HO := Lib.hid (own_one W x 9 W.heap.size (Nat.le_refl _))
 have HR := Lib.hid (h.below hbA)
 have hsz : W.heap.size ≤ (W.alloc (.cells #[.string (bsA x)] 9)).heap.size := by simp
 have HB := Lib.hid hbA
 have HJ := Lib.hid hj
 have HL := Lib.hid hl
 clear h hbA hj hl
 go_enter Tryz.func29, Tryz.ntmps29
 go_wp2_with (at_builtin; refine wpList_append_strs rfl _ _ rfl rfl Tryz.underlying71 str_info (by decide) W.heap.size _ 1 (strV [x]) rfl HO.out A n c ws rfl HL.out HR.out hsz (by omega) ?_; intro v7 w7 hown7 hg7; rw [← strV_append] at hown7; have HB7 := Lib.hid (HB.out.grown hg7 hsz (fun q hq => (HO.out.lt q hq).1)); obtain ⟨hl7, A7, c7, hv7, hc7, hr7⟩ := rds_of_own hown7; subst hv7; have HR7 := Lib.hid hr7; clear hown7 hg7 hl7 hr7)
 obtain ⟨bk, o, hA, hcs⟩ := HR7.out
 obtain ⟨rfl, hbk⟩ := hA (by simp)
 have hlen : (([x] ++ ws).map bsA).length = 1 + n := by simp [HL.out]; omega
 have hjn : Lib.join ((([x] ++ ws).map bsA).map (·.data.toList)) [32] = jnL 32 (x :: ws) := by
  rw [jn_join, List.map_map]
  congr 1
  have : ((fun b : ByteArray => b.data.toList) ∘ bsA) = id := by funext l; rfl
  rw [this]; simp
 have HJN := Lib.hid (Tryz.strings_Join bk o c7 (([x] ++ ws).map bsA) ⟨#[32]⟩ w7 (fun j y hy => by
  rw [List.getElem?_map, Option.map_eq_some_iff] at hy
  obtain ⟨l, h1, rfl⟩ := hy
  have hj : j < ([x] ++ ws).length := (List.getElem?_eq_some_iff.1 h1).1
  rw [hcs j hj, List.getD_eq_getElem?_getD, h1]; rfl) hbk (by rw [hlen]; omega) (by rw [hlen]; exact hc7) (by
   show (Lib.join ((([x] ++ ws).map bsA).map (·.data.toList)) [32]).length ≤ _
   rw [hjn]; have := HJ.out; omega))
 rw [hlen, show (⟨#[32]⟩ : ByteArray).data.toList = [32] from rfl, hjn] at HJN
 clear hA hcs hlen hjn hc7
 refine HJN.out.mono ?_
 rintro e w8 ⟨rfl, hb8⟩
 go_wp2
 go_ret
 exact ⟨rfl, HB7.out.trans (hb8.mono HB7.out.size)⟩
theorem okR_res {t r : Nat} (ht : 1 ≤ t ∧ t ≤ 250) (hr : r ≤ 250) : resB t r = true := by unfold resB; simp; omega
theorem dec_digs : ∀ n, n < 1000 → Lib.decDigits n = digL n := by
 intro n hn
 unfold digL
 by_cases h1 : n < 10
 ·rw [if_pos h1, Lib.decDigits, dif_pos h1]; rfl
 ·by_cases h2 : n < 100
  ·rw [if_neg h1, if_pos h2, Lib.decDigits, dif_neg h1, Lib.decDigits, dif_pos (by omega)]; rfl
  ·rw [if_neg h1, if_neg h2, Lib.decDigits, dif_neg h1, Lib.decDigits, dif_neg (by omega), Lib.decDigits, dif_pos (by omega), show n / 10 / 10 = n / 100 by omega]; rfl
theorem textB_row2 {t r : Nat} (h : ¬ r = 0) : digs t ++ ((⟨#[46]⟩ : ByteArray) ++ digs r) = textB t r := by
 rw [← textB_row h]
 apply ByteArray.ext
 simp
theorem itoa_digs (n : Nat) (w : World) (h : TxW w) (hn : n < 1000) :
 Calls Tryz.prog 30 #[.int .i64 n] w fun e w' => e = .returned (.string (digs n)) ∧ Below w.heap.size w w' := by
 have := itoa_any n w h (by omega)
 rwa [show bsA (decL n) = digs n from by unfold bsA decL digs; rw [dec_digs n hn]] at this
theorem rok_yes (t r : Nat) (w : World) (ht : 1 ≤ t ∧ t ≤ 250) (hr : r ≤ 250) : Calls Tryz.prog 67 #[.agg #[.int .i64 t, .int .i64 r]] w fun e w' => e = .returned (.bool true) ∧ Below w.heap.size w w' := by
 have := resok_any t r w
 rw [okR_res ht hr] at this
 exact this.mono fun e w' ⟨a, b⟩ => ⟨a, by rw [← b]; exact (Below.refl _ _).alloc (Nat.le_refl _) _⟩
set_option maxRecDepth 100000 in
set_option maxHeartbeats 1000000 in
theorem rtext_any (t r : Nat) (w : World) (hT : TxW w) (ht : 1 ≤ t ∧ t ≤ 250) (hr : r ≤ 250) :
 Calls Tryz.prog 70 #[.agg #[.int .i64 t, .int .i64 r]] w fun e w' => e = .returned (.tuple #[.string (textB t r), .nilIface]) ∧ Below w.heap.size w w' := by
 have hbA : Below w.heap.size w (w.alloc (.cells #[.int .i64 t, .int .i64 r] 23)) := (Below.refl _ _).alloc (Nat.le_refl _) _
 have HO := Lib.hid (rok_yes t r (w.alloc (.cells #[.int .i64 t, .int .i64 r] 23)) ht hr)
 have hb0 : (w.alloc (.cells #[.int .i64 t, .int .i64 r] 23)).cell? ⟨w.heap.size, 0, none⟩ = some (.int .i64 t) := by simp
 have hb1 : (w.alloc (.cells #[.int .i64 t, .int .i64 r] 23)).cell? ⟨w.heap.size, 1, none⟩ = some (.int .i64 r) := by simp
 have HT := Lib.hid hT
 clear hT
 go_enter Tryz.func70, Tryz.ntmps70
 go_wp2_with fail
 refine HO.out.mono ?_
 rintro e w5 ⟨rfl, hb5⟩
 have hb5' := hbA.trans (hb5.mono hbA.size)
 have c0 := cell_keep hb5 hb0
 have c1 := cell_keep hb5 hb1
 clear hb0 hb1
 go_wp2_with fail
 refine (itoa_digs t _ (HT.out.below hb5') (by omega)).mono ?_
 rintro e w6 ⟨rfl, hb6⟩
 have hb6' := hb5'.trans (hb6.mono hb5'.size)
 have d1 := cell_keep hb6 c1
 clear c0 c1
 by_cases hr0 : r = 0
 ·subst hr0
  go_wp2
  go_ret2
  exact ⟨rfl, hb6'⟩
 ·have hr' : (0 : Int) < r := by omega
  have hrn : 0 < r := by omega
  have hX := textB_row2 (t := t) hr0
  have h1 : ¬ 9223372036854775807 < (⟨#[46]⟩ : ByteArray).size + (digs r).size := by
   have := digs_size r
   rw [show (⟨#[46]⟩ : ByteArray).size = 1 from rfl]; omega
  have h1' : ¬ 9223372036854775807 < 1 + (digs r).size := by have := digs_size r; omega
  have h2 : ¬ 9223372036854775807 < (digs t).size + ((⟨#[46]⟩ : ByteArray) ++ digs r).size := by
   have a1 := digs_size t
   have a2 := digs_size r
   rw [ByteArray.size_append, show (⟨#[46]⟩ : ByteArray).size = 1 from rfl]; omega
  have HI := Lib.hid (itoa_digs r w6 (HT.out.below hb6') (by omega))
  generalize digs t = d1' at *
  generalize digs r = d2' at *
  obtain ⟨X, hXX⟩ : ∃ X, (⟨#[46]⟩ : ByteArray) ++ d2' = X := ⟨_, rfl⟩
  rw [hXX] at hX h2
  go_wp2_with fail
  refine HI.out.mono ?_
  rintro e w7 ⟨rfl, hb7⟩
  go_wp2
  go_ret2
  exact ⟨rfl, hb6'.trans (hb7.mono hb6'.size)⟩
set_option maxHeartbeats 1000000 in
theorem place_any (t r : Nat) (W : World) (hT : TxW W) (ht : 1 ≤ t ∧ t ≤ 250) (hr : r ≤ 250) :
 Calls Tryz.prog 31 #[.agg #[.int .i64 t, .int .i64 r]] W fun e w' => e = .returned (.string (bsA (textL t r))) ∧ Below W.heap.size W w' := by
 have hbA : Below W.heap.size W (W.alloc (.cells #[.int .i64 t, .int .i64 r] 23)) := (Below.refl _ _).alloc (Nat.le_refl _) _
 have HRT := Lib.hid (show Calls Tryz.prog 70 #[.agg #[.int .i64 t, .int .i64 r]] (W.alloc (.cells #[.int .i64 t, .int .i64 r] 23)) fun e w' => e = .returned (.tuple #[.string (bsA (textL t r)), .nilIface]) ∧ Below (W.alloc (.cells #[.int .i64 t, .int .i64 r] 23)).heap.size (W.alloc (.cells #[.int .i64 t, .int .i64 r] 23)) w' from rtext_any t r _ (hT.below hbA) ht hr)
 clear hT
 go_enter Tryz.func31, Tryz.ntmps31
 go_wp2_with fail
 refine HRT.out.mono ?_
 rintro e w5 ⟨rfl, hb5⟩
 go_wp2
 go_ret
 exact ⟨rfl, hbA.trans (hb5.mono hbA.size)⟩
end Go.Proofs.YtjpjlfjaapfnkaaGreatDoor
namespace Go.Proofs.YtjpjlfjaapfnkaaGreatDoor
open Go.ChangeShapes Go.WideShapes Go.ChangeAt Go.RowKit Go.Maps
theorem wpList_insert_own {H : Type} {P : Program} (w : World) {ops : Array Oper} {rest : List Oper} {o : Oper} {a : Act} {Q : Exit → Act → World → Prop}
 (hg : o.guard = none) (m x v : Operand) (t : TypeId) (hop : o.op = Op.insert t m x v)
 (k e : TypeId) (K : Keyed P k) (ht : P.underlying t = some (.map k e)) (R : Value → Option (DataW H × List MemPlace)) (b n : Nat) (D : DataW H)
 (hm : a.eval m = .map (some b)) (hown : w.ownsMap P k R b n D) (hn : n < maxLen) (key val : Value) (kl : Lit) (hx : a.eval x = key) (hv : a.eval v = val) (hkey : keyOf P k key = some kl)
 (d : DataW H) (ps : List MemPlace) (hval : R val = some (d, ps))
 (hK : ∀ w', w'.ownsMap P k R b (n + 1) (D.put kl d) → w.grownBy w' (some b) → wpList P ops Q rest (a.put o.dst undef) w') :
 wpList P ops Q (o :: rest) a w := by
 refine wpList_plain hg fun K' hK' => ?_
 obtain ⟨w', hrun, r1, r2⟩ := hown.update K ht hn hkey hval
 unfold Oper.wp
 simp [execOp, hop, hm, hx, hv, hrun, Result.andThen]
 exact hK' _ _ (hK w' r1 r2)
def fnElem : Value → Option (DataW Unit × List MemPlace)
 | .func (.func f) a b => if a = #[] ∧ b = #[] then some (.lit (.int .i64 (f : Int)), []) else none
 | .nilFunc => some (.lit (.int .i64 (-1)), [])
 | _ => none
theorem fnElem_inv {v : Value} {f : Nat} {ps : List MemPlace} (h : fnElem v = some (.lit (.int .i64 (f : Int)), ps)) : v = .func (.func f) #[] #[] := by
 unfold fnElem at h
 split at h
 ·rename_i g a b
  split at h
  ·rename_i hab
   have h1 := congrArg Prod.fst (Option.some.inj h)
   injection h1 with h1
   injection h1 with _ h1
   have : g = f := Int.ofNat_inj.1 h1
   rw [this, hab.1, hab.2]
  ·cases h
 ·have h1 := congrArg Prod.fst (Option.some.inj h)
  injection h1 with h1
  injection h1 with _ h1
  omega
 ·cases h
theorem strK : Keyed Tryz.prog 9 := string_keyed Tryz.underlying9
theorem keyOf_str {s : ByteArray} (hs : s.size ≤ maxLen) : keyOf Tryz.prog 9 (.string s) = some (.string s.data.toList) := by
 simp [keyOf, mapKey, Tryz.underlying9, hs]
def evFn (k : Nat) : Nat := match k with
 | 1 => 52
 | 2 => 53
 | 3 => 54
 | 4 => 55
 | 5 => 56
 | 6 => 57
 | 7 => 58
 | _ => 59
def evMapD : Nat → DataW Unit
 | 0 => .map []
 | k + 1 => (evMapD k).put (.string (evName (k + 1))) (.lit (.int .i64 (evFn (k + 1) : Nat)))
theorem evMap_is (k : Nat) : IsMap (evMapD k) := by
 induction k with
 | zero => exact ⟨[], rfl⟩
 | succ k ih => exact C20.isMap_put ih _ _
theorem evKey (k : Nat) : WideAt.IsKeyLit (.string (evName k)) := strK.key (keyOf_str (s := bsA (evName k)) (by rw [bs_size]; unfold evName maxLen; split <;> simp))
theorem evMap_at (w : List UInt8) : ∀ k, k ≤ 8 → Maps.has (evMapD k) (.string w) = decide (1 ≤ evNo w ∧ evNo w ≤ k) ∧ (1 ≤ evNo w → evNo w ≤ k → (evMapD k).atKey (.string w) (.lit (.int .i64 (-1))) = .lit (.int .i64 (evFn (evNo w) : Nat))) := by
 intro k
 induction k with
 | zero => intro _; exact ⟨by simp [evMapD, Maps.has]; omega, fun a b => by omega⟩
 | succ k ih =>
  intro hk
  obtain ⟨a, b⟩ := ih (by omega)
  unfold evMapD
  by_cases hw : w = evName (k + 1)
  ·have hn : evNo w = k + 1 := by rw [hw]; exact evNo_name _ (by omega) hk
   refine ⟨?_, fun _ _ => ?_⟩
   ·rw [hw, has_put_same (evMap_is k) (evKey _)]; rw [← hw, hn]; simp
   ·rw [hn, hw]; exact atKey_put_same (evMap_is k) (evKey _) _ _
  ·have hne : (Lit.string w) ≠ .string (evName (k + 1)) := fun e => hw (by simpa using e)
   have hno : evNo w ≠ k + 1 := fun e => hw (by have := (evNo_is (w := w) (by omega)).1; rw [e] at this; exact this.symm)
   rw [has_put_other hne, atKey_put_other hne, a]
   refine ⟨?_, fun c d => b c (by omega)⟩
   congr 1
   apply propext
   omega
theorem ev_look {mb : Nat} {W : World} (h : W.ownsMap Tryz.prog 9 fnElem mb 8 (evMapD 8)) {w : List UInt8} (hw : w.length ≤ 140737488355328) :
 (1 ≤ evNo w → (Instr.lookup 94 (.map (some mb)) (.string (bsA w)) true).run Tryz.prog W = .ok (.tuple #[.func (.func (evFn (evNo w))) #[] #[], .bool true]) W) ∧
 (evNo w = 0 → ∃ v, (Instr.lookup 94 (.map (some mb)) (.string (bsA w)) true).run Tryz.prog W = .ok (.tuple #[v, .bool false]) W) := by
 have hz : (zeroValue 93).run Tryz.prog W = .ok .nilFunc W := by kernel_rfl
 obtain ⟨v, ps, hrun, hv⟩ := h.look_ok strK Tryz.underlying94 hz (zd := .lit (.int .i64 (-1))) (zp := []) rfl (keyOf_str (s := bsA w) (by rw [bs_size]; unfold maxLen; omega))
 have hl : (bsA w).data.toList = w := rfl
 rw [hl] at hrun hv
 obtain ⟨a, b⟩ := evMap_at w 8 (by omega)
 rw [a] at hrun
 constructor
 ·intro h1
  have h8 : evNo w ≤ 8 := (evNo_is (w := w) (by omega)).2.2
  rw [b h1 h8] at hv
  rw [fnElem_inv hv] at hrun
  rw [hrun]; simp [h1, h8]
 ·intro h0
  refine ⟨v, ?_⟩
  rw [hrun]; simp [h0]
end Go.Proofs.YtjpjlfjaapfnkaaGreatDoor

/-
  What walks ask of a world; Itoa, Atoi, Split; the reader; the functions of ParseEvent's map. No conditions beyond those that each theorem states.
-/
import Derived.Test.YtjpjlfjaapfnkaaGreatDoorDMD
import Derived.Test.YtjpjlfjaapfnkaaGreatDoorDMC
import Derived.Test.YtjpjlfjaapfnkaaGreatDoorDShelf
import Derived.Test.YtjpjlfjaapfnkaaGreatDoorDMA
import Derived.Lib.LaidTab
import Derived.Lib.ItoaNum
set_option linter.unusedVariables false
set_option linter.unusedSimpArgs false
namespace Go.Proofs.YtjpjlfjaapfnkaaGreatDoor
open Go.ChangeShapes Go.WideShapes Go.ChangeAt Go.RowKit
theorem Tryz.gTab : Tryz.prog.globalNamed "internal/strconv.uint64pow10" = some 1 := by kernel_rfl
def TabW (w : World) : Prop := Lib.TabIs Tryz.prog w "internal/strconv.uint64pow10" .u64 Lib.pow10Tab
theorem TabW.below {w w1 : World} (h : TabW w) (hb : Below w.heap.size w w1) : TabW w1 := by
 unfold TabW Lib.TabIs World.var? at h ⊢
 rw [Tryz.gTab] at h ⊢
 simp only [Option.bind_some] at h ⊢
 rcases Nat.lt_or_ge 1 w.heap.size with hg | hg
 ·rw [hb.block _ hg]; exact h
 ·rw [Array.getElem?_eq_none hg] at h; cases h
structure TxW (w : World) : Prop where
 err : ErrT w
 tab : TabW w
 max : ∃ m, w.cell? ⟨4, 0, none⟩ = some (.int .i64 m)
 syn : ∃ t p, w.cell? ⟨2, 0, none⟩ = some (.iface t p)
 rng : ∃ t p, w.cell? ⟨3, 0, none⟩ = some (.iface t p)
theorem TxW.below {w w1 : World} (h : TxW w) (hb : Below w.heap.size w w1) : TxW w1 := by
 obtain ⟨m, hm⟩ := h.max
 obtain ⟨t, p, hs⟩ := h.syn
 obtain ⟨t', p', hr⟩ := h.rng
 exact ⟨h.err.below hb, h.tab.below hb, ⟨m, cell_keep hb hm⟩, ⟨t, p, cell_keep hb hs⟩, ⟨t', p', cell_keep hb hr⟩⟩
theorem TxW.grown {w w1 : World} {rb : Nat} (h : TxW w) (hg : w.grownBy w1 (some rb)) (hrb : 9 ≤ rb) : TxW w1 := by
 have key : ∀ {g : Nat} {u : Value}, g < 9 → w.cell? ⟨g, 0, none⟩ = some u → w1.cell? ⟨g, 0, none⟩ = some u := fun {g u} hgl hc => by
  have hl := lt_of_cell hc
  have := hg.block g hl (by simp; omega)
  rw [← hc]; simp only [World.cell?, this]
 obtain ⟨m, hm⟩ := h.max
 obtain ⟨t, p, hs⟩ := h.syn
 obtain ⟨t', p', hr⟩ := h.rng
 refine ⟨key (by decide) h.err, ?_, ⟨m, key (by decide) hm⟩, ⟨t, p, key (by decide) hs⟩, ⟨t', p', key (by decide) hr⟩⟩
 have ht := h.tab
 unfold TabW Lib.TabIs World.var? at ht ⊢
 rw [Tryz.gTab] at ht ⊢
 simp only [Option.bind_some] at ht ⊢
 rcases Nat.lt_or_ge 1 w.heap.size with hgl | hgl
 ·rw [hg.block _ hgl (by simp; omega)]; exact ht
 ·rw [Array.getElem?_eq_none hgl] at ht; cases ht
theorem grow_below (w : World) (k : Nat) (os : Array Obj) : Below w.heap.size w (Sort.grow (w.drewN k) os) := by
 refine ⟨rfl, rfl, rfl, ?_, fun j hj => ?_⟩
 ·show w.heap.size ≤ (w.heap ++ os).size
  simp
 ·show (w.heap ++ os)[j]? = _
  rw [Array.getElem?_append_left hj]
theorem itoa_any (n : Nat) (w : World) (h : TxW w) (hn : n ≤ 99999999) :
 Calls Tryz.prog 30 #[.int .i64 n] w fun e w' => e = .returned (.string (bsA (decL n))) ∧ Below w.heap.size w w' := by
 refine (Tryz.strconv_Itoa (n : Int) (by omega) (by omega) w h.tab).mono ?_
 rintro e w' ⟨rfl, k, os, rfl⟩
 exact ⟨by rw [itoa_nat]; rfl, grow_below _ _ _⟩
theorem itoa_int (n : Int) (w : World) (h : TxW w) (h0 : 0 ≤ n) (hn : n ≤ 99999999) :
 Calls Tryz.prog 30 #[.int .i64 n] w fun e w' => e = .returned (.string (bsA (Lib.itoa n))) ∧ Below w.heap.size w w' := by
 refine (Tryz.strconv_Itoa n (by omega) (by omega) w h.tab).mono ?_
 rintro e w' ⟨rfl, k, os, rfl⟩
 exact ⟨rfl, grow_below _ _ _⟩
def AtoiIs (w : World) (e : Ending) (w' : World) : Lib.NumEnd Int → Prop
 | .ok v => e = .returned (.tuple #[.int .i64 v, .nilIface]) ∧ Below w.heap.size w w'
 | _ => ∃ v N, e = .returned (.tuple #[.int .i64 v, .iface 178 (.pointer (some ⟨N, 0, none⟩))]) ∧ Below w.heap.size w w'
theorem atoi_any (s : ByteArray) (w : World) (h : TxW w) (hs : s.size ≤ 140737488355328) :
 Calls Tryz.prog 74 #[.string s] w fun e w' => AtoiIs w e w' (Lib.atoiAll s.data.toList) := by
 cases ha : Lib.atoiAll s.data.toList with
 | ok v =>
  refine (Tryz.strconv_Atoi_ok s (by omega) v ha w).mono ?_
  rintro e w' ⟨rfl, rfl | ⟨t, rfl⟩⟩
  ·exact ⟨rfl, Below.refl _ _⟩
  ·exact ⟨rfl, Lib.bytesWorld_below _ _ _⟩
 | range =>
  obtain ⟨t, p, hc⟩ := h.rng
  refine (Tryz.strconv_Atoi_range s (by omega) ha _ w hc (.inr ⟨t, p, rfl⟩)).mono ?_
  rintro e w' ⟨N, rfl, _, _, hb⟩
  exact ⟨_, N, rfl, hb⟩
 | _ =>
  obtain ⟨t, p, hc⟩ := h.syn
  refine (Tryz.strconv_Atoi_syntax s (by omega) ha _ w hc (.inr ⟨t, p, rfl⟩)).mono ?_
  rintro e w' ⟨N, rfl, _, _, hb⟩
  exact ⟨_, N, rfl, hb⟩
theorem split_any (s : ByteArray) (c : UInt8) (w : World) (h : TxW w) (hs : s.size < 4294967281) :
 Calls Tryz.prog 77 #[.string s, .string ⟨#[c]⟩] w fun e w' => e = .returned (.slice (some ⟨w.heap.size, 0, none⟩) (spL c s.data.toList).length (spL c s.data.toList).length) ∧ w' = w.alloc (.cells (strs (spL c s.data.toList)) 9) := by
 obtain ⟨m, hm⟩ := h.max
 refine (Tryz.strings_Split s ⟨#[c]⟩ m w hs hm (Nat.le_refl 1)).mono ?_
 rintro e w' ⟨rfl, rfl⟩
 have hl := sp_len c s
 refine ⟨by rw [hl], ?_⟩
 congr 2
 unfold strs
 rw [← sp_split c s, List.map_map]
 congr 1
def wordN (w : List UInt8) : Int := ((numT w).getD 0 : Nat)
theorem itoa_ne {v : Int} {x : List UInt8} (h : ¬ Lib.itoa v = x) : ((bsA (Lib.itoa v)).toList == (bsA x).toList) = false := by
 rw [bs_list, bs_list]; simpa using h
theorem itoa_eq {v : Int} {x : List UInt8} (h : Lib.itoa v = x) : ((bsA (Lib.itoa v)).toList == (bsA x).toList) = true := by
 rw [h]; simp
set_option maxRecDepth 100000 in
set_option maxHeartbeats 2000000 in
theorem num_read (rb base : Nat) (ws : List (List UInt8)) (bad : Bool) (W : World) (h : Rdr W rb base ws bad) (hT : TxW W) (hrb : 9 ≤ rb) (hs : (ws.headD []).length ≤ 140737488355328) :
 Calls Tryz.prog 39 #[.pointer (some ⟨rb, 0, none⟩)] W fun e w' => e = .returned (.int .i64 (wordN (ws.headD []))) ∧ Rdr w' rb base ws.tail (bad || (numT (ws.headD [])).isNone) ∧ W.grownBy w' (some rb) := by
 have hn0 : ws.isEmpty = true → numT (ws.headD []) = none := fun q => by
  have : ws = [] := by simpa using q
  subst this; rfl
 have HNX := Lib.hid (next_any rb base ws bad W h)
 have HTW := Lib.hid hT
 clear h hT
 obtain ⟨x, hx⟩ : ∃ x, ws.headD [] = x := ⟨_, rfl⟩
 rw [hx] at hs hn0 HNX ⊢
 have HN0 := Lib.hid hn0
 clear hx hn0
 go_enter Tryz.func39, Tryz.ntmps39
 go_wp2_with fail
 refine HNX.out.mono ?_
 rintro e w1 ⟨rfl, hr1, hg1⟩
 have HR1 := Lib.hid hr1
 have HG1 := Lib.hid hg1
 have hT1 := HTW.out.grown hg1 hrb
 have HT1 := Lib.hid hT1
 have HAT := Lib.hid (atoi_any (bsA x) w1 hT1 (by rw [bs_size]; exact hs))
 rw [bsA_list] at HAT
 clear hr1 hg1 hT1 hs HNX
 go_wp2_with fail
 refine HAT.out.mono ?_
 intro e w2 hat
 cases ha : Lib.atoiAll x with
 | ok v =>
  rw [ha] at hat
  obtain ⟨rfl, hb2⟩ := hat
  have HR2 := Lib.hid (HR1.out.below hb2)
  have HG2 := Lib.hid (gb_trans HG1.out (gb_below (r := some rb) hb2))
  have HT2 := Lib.hid (HT1.out.below hb2)
  have HA := Lib.hid ha
  clear ha hb2 HAT HR1 HG1 HT1
  obtain ⟨_, _, _, _, _, h1, _, f1, _⟩ := id HR2.out
  by_cases hv0 : v < 0
  ·have HN := Lib.hid (num_no HA.out (fun q => by omega))
   go_wp2
   go_ret
   exact ⟨by unfold wordN; rw [HN.out]; rfl, by rw [HN.out]; simpa using HR2.out.mark true, gb_set HG2.out 1 _⟩
  ·by_cases hv1 : 99999999 < v
   ·have HN := Lib.hid (num_no HA.out (fun q => by omega))
    go_wp2
    go_ret
    exact ⟨by unfold wordN; rw [HN.out]; rfl, by rw [HN.out]; simpa using HR2.out.mark true, gb_set HG2.out 1 _⟩
   ·have HIT := Lib.hid (itoa_int v w2 HT2.out (by omega) (by omega))
    by_cases hq : Lib.itoa v = x
    ·have HN := Lib.hid (num_ok (s := x) (v := v) (by omega) (by omega) hq)
     have hie := itoa_eq hq
     have HEM := Lib.hid (show ws.isEmpty = false from by
      cases hw : ws.isEmpty with
      | false => rfl
      | true => have := HN0.out hw; rw [HN.out] at this; cases this)
     have HV := Lib.hid (show ((v.toNat : Nat) : Int) = v from by omega)
     obtain ⟨y, hy⟩ : ∃ y, bsA (Lib.itoa v) = y := ⟨_, rfl⟩
     rw [hy] at HIT hie
     clear hq hy
     go_wp2_with fail
     refine HIT.out.mono ?_
     rintro e w3 ⟨rfl, hb3⟩
     have HR3 := Lib.hid (HR2.out.below hb3)
     have HG3 := Lib.hid (gb_trans HG2.out (gb_below (r := some rb) hb3))
     clear hb3
     go_wp2
     go_ret
     exact ⟨by unfold wordN; rw [HN.out]; simp only [Option.getD_some]; rw [HV.out]; rfl, by rw [HN.out]; have := HR3.out; rw [HEM.out] at this; simpa using this, HG3.out⟩
    ·have HN := Lib.hid (num_no HA.out (fun q => hq q.2.2))
     have hie := itoa_ne hq
     obtain ⟨y, hy⟩ : ∃ y, bsA (Lib.itoa v) = y := ⟨_, rfl⟩
     rw [hy] at HIT hie
     clear hq hy
     go_wp2_with fail
     refine HIT.out.mono ?_
     rintro e w3 ⟨rfl, hb3⟩
     have HR3 := Lib.hid (HR2.out.below hb3)
     have HG3 := Lib.hid (gb_trans HG2.out (gb_below (r := some rb) hb3))
     obtain ⟨_, _, _, _, _, h3, _, f3, _⟩ := id HR3.out
     clear hb3 h1 f1
     go_wp2
     go_ret
     exact ⟨by unfold wordN; rw [HN.out]; rfl, by rw [HN.out]; simpa using HR3.out.mark true, gb_set HG3.out 1 _⟩
 | range =>
  rw [ha] at hat
  obtain ⟨v, N, rfl, hb2⟩ := hat
  have HN := Lib.hid (num_range ha)
  have HR2 := Lib.hid (HR1.out.below hb2)
  have HG2 := Lib.hid (gb_trans HG1.out (gb_below (r := some rb) hb2))
  clear ha hb2 HAT HR1 HG1 HT1
  obtain ⟨_, _, _, _, _, h1, _, f1, _⟩ := id HR2.out
  go_wp2
  go_ret
  exact ⟨by unfold wordN; rw [HN.out]; rfl, by rw [HN.out]; simpa using HR2.out.mark true, gb_set HG2.out 1 _⟩
 | _ =>
  rw [ha] at hat
  obtain ⟨v, N, rfl, hb2⟩ := hat
  have HN := Lib.hid (num_syntax ha)
  have HR2 := Lib.hid (HR1.out.below hb2)
  have HG2 := Lib.hid (gb_trans HG1.out (gb_below (r := some rb) hb2))
  clear ha hb2 HAT HR1 HG1 HT1
  obtain ⟨_, _, _, _, _, h1, _, f1, _⟩ := id HR2.out
  go_wp2
  go_ret
  exact ⟨by unfold wordN; rw [HN.out]; rfl, by rw [HN.out]; simpa using HR2.out.mark true, gb_set HG2.out 1 _⟩
def resBad (L : List UInt8) : Bool := match parseL L with
 | .inl _ => false
 | .inr _ => true
theorem resBad_ok {L : List UInt8} {p : Nat × Nat} (h : parseL L = .inl p) : resBad L = false ∧ resR L = p := by unfold resBad resR; rw [h]; exact ⟨rfl, rfl⟩
theorem resBad_no {L : List UInt8} {i : Nat} (h : parseL L = .inr i) : resBad L = true ∧ resR L = (0, 0) := by unfold resBad resR; rw [h]; exact ⟨rfl, rfl⟩
theorem parse_nil : resBad [] = true := by decide +kernel
set_option maxRecDepth 100000 in
set_option maxHeartbeats 2000000 in
theorem place_read (rb base : Nat) (ws : List (List UInt8)) (bad : Bool) (W : World) (h : Rdr W rb base ws bad) (hT : TxW W) (hrb : 9 ≤ rb) (hs : (ws.headD []).length ≤ 140737488355328) :
 Calls Tryz.prog 40 #[.pointer (some ⟨rb, 0, none⟩)] W fun e w' => e = .returned (.agg #[.int .i64 ((resR (ws.headD [])).1 : Nat), .int .i64 ((resR (ws.headD [])).2 : Nat)]) ∧ Rdr w' rb base ws.tail (bad || resBad (ws.headD [])) ∧ W.grownBy w' (some rb) := by
 have hbA : Below W.heap.size W (W.alloc (.cells #[.int .i64 0, .int .i64 0] 23)) := (Below.refl _ _).alloc (Nat.le_refl _) _
 have HNX := Lib.hid (next_any rb base ws bad _ (h.below hbA))
 have HTW := Lib.hid (hT.below hbA)
 have HRB := Lib.hid (Nat.lt_of_lt_of_le h.lt.1 h.lt.2)
 have HBS := Lib.hid h.lt
 have hn0 : ws.isEmpty = true → resBad (ws.headD []) = true := fun q => by
  have : ws = [] := by simpa using q
  subst this; exact parse_nil
 clear h hT
 obtain ⟨x, hx⟩ : ∃ x, ws.headD [] = x := ⟨_, rfl⟩
 rw [hx] at hs HNX hn0 ⊢
 have HN0 := Lib.hid hn0
 clear hx hn0
 go_enter Tryz.func40, Tryz.ntmps40
 go_wp2_with fail
 refine HNX.out.mono ?_
 rintro e w1 ⟨rfl, hr1, hg1⟩
 have hT1 := HTW.out.grown hg1 hrb
 have HPA := Lib.hid (parse_any (bsA x) w1 hT1.err (by rw [bs_size]; exact hs))
 have hne : W.heap.size ≠ rb := by have := HRB.out; omega
 have c0 := (gb_cell (k := W.heap.size) (o := 0) hg1 (by simp) hne)
 have c1 := (gb_cell (k := W.heap.size) (o := 1) hg1 (by simp) hne)
 rw [bsA_list] at HPA
 have HR1 := Lib.hid hr1
 have HG1 := Lib.hid (gb_trans (World.grownBy_alloc W _ _) hg1)
 have HS1 := Lib.hid (show W.heap.size < w1.heap.size from by have := hg1.size; simp at this; omega)
 have r0 : w1.cell? ⟨W.heap.size, 0, none⟩ = some (.int .i64 0) := c0.1.trans (by simp)
 have r1 : w1.cell? ⟨W.heap.size, 1, none⟩ = some (.int .i64 0) := c1.1.trans (by simp)
 have z0 : w1.frozen? ⟨W.heap.size, 0, none⟩ = false := c0.2.trans (by simp)
 have z1 : w1.frozen? ⟨W.heap.size, 1, none⟩ = false := c1.2.trans (by simp)
 have HC := Lib.hid (And.intro r0 (And.intro r1 (And.intro z0 z1)))
 clear hr1 hg1 hT1 hs HNX HTW c0 c1 r0 r1 z0 z1 hbA
 go_wp2_with fail
 refine HPA.out.mono ?_
 rintro e w2 ⟨hp, hb2⟩
 have HR2 := Lib.hid (HR1.out.below hb2)
 have HG2 := Lib.hid (gb_trans HG1.out (gb_below (r := some rb) hb2))
 have HS2 := Lib.hid (Nat.lt_of_lt_of_le HS1.out hb2.size)
 obtain ⟨r0, r1, z0, z1⟩ := HC.out
 have r0 := (hb2.cell (p := ⟨W.heap.size, 0, none⟩) HS1.out).trans r0
 have r1 := (hb2.cell (p := ⟨W.heap.size, 1, none⟩) HS1.out).trans r1
 have z0 := (hb2.frozen (p := ⟨W.heap.size, 0, none⟩) HS1.out).trans z0
 have z1 := (hb2.frozen (p := ⟨W.heap.size, 1, none⟩) HS1.out).trans z1
 clear HC HPA HR1 HG1
 obtain ⟨b1, hb1⟩ : ∃ b, (bad || ws.isEmpty) = b := ⟨_, rfl⟩
 have HB1 := Lib.hid hb1
 rw [hb1] at HR2
 obtain ⟨_, _, _, _, _, h1, _, f1, _⟩ := id HR2.out
 have hne' : rb ≠ W.heap.size := fun e => hne e.symm
 have hn2 : ¬ rb = w2.heap.size := by have := HS2.out; have := HRB.out; omega
 have hn3 : ¬ W.heap.size = w2.heap.size := by have := HS2.out; omega
 clear hb1
 cases hq : parseL x with
 | inl p =>
  obtain ⟨t, r⟩ := p
  rw [hq] at hp
  obtain rfl := hp
  have HOK := Lib.hid (resBad_ok hq)
  have HBF := Lib.hid (show (bad || resBad x) = b1 from by
   rw [← HB1.out, HOK.out.1]
   cases hw : ws.isEmpty with
   | false => rfl
   | true => have := HN0.out hw; rw [HOK.out.1] at this; cases this)
  clear hb2 hq
  have hba : Below w2.heap.size w2 (w2.alloc (.cells #[.int .i64 t, .int .i64 r] 23)) := (Below.refl _ _).alloc (Nat.le_refl _) _
  have h1a := cell_keep hba h1
  have f1a := (hba.frozen (p := ⟨rb, 1, none⟩) (lt_of_cell h1)).trans f1
  have r0a := cell_keep hba r0
  have r1a := cell_keep hba r1
  have z0a := (hba.frozen (p := ⟨W.heap.size, 0, none⟩) (lt_of_cell r0)).trans z0
  have z1a := (hba.frozen (p := ⟨W.heap.size, 1, none⟩) (lt_of_cell r0)).trans z1
  cases b1 with
  | false =>
   have r0' : ((w2.alloc (.cells #[.int .i64 t, .int .i64 r] 23)).setCell ⟨rb, 1, none⟩ (.bool false)).cell? ⟨W.heap.size, 0, none⟩ = some (.int .i64 0) := (World.cell?_setCell_other _ _ _ _ (by simp [hne'])).trans r0a
   have r1' : ((w2.alloc (.cells #[.int .i64 t, .int .i64 r] 23)).setCell ⟨rb, 1, none⟩ (.bool false)).cell? ⟨W.heap.size, 1, none⟩ = some (.int .i64 0) := (World.cell?_setCell_other _ _ _ _ (by simp [hne'])).trans r1a
   obtain ⟨q0, q1⟩ := set2 r0' r1' (.int .i64 t) (.int .i64 r)
   have HRF := Lib.hid (((HR2.out.below hba).mark false).below' (((Below.refl base _).setCell (p := ⟨W.heap.size, 0, none⟩) HBS.out.2 (.int .i64 t)).setCell (p := ⟨W.heap.size, 1, none⟩) HBS.out.2 (.int .i64 r)))
   have HGF := Lib.hid (gb_new (o := 1) (u := .int .i64 r) (gb_new (o := 0) (u := .int .i64 t) (gb_set (gb_alloc HG2.out (.cells #[.int .i64 t, .int .i64 r] 23)) 1 (.bool false)) (Nat.le_refl W.heap.size)) (Nat.le_refl _))
   go_wp2
   refine bodyPost_ret (by simp [results, Tryz.results40, go_sem, q0, q1] <;> rfl) rfl ?_
   exact ⟨by rw [HOK.out.2] <;> rfl, by rw [HBF.out]; exact HRF.out, HGF.out⟩
  | true =>
   have r0' : ((w2.alloc (.cells #[.int .i64 t, .int .i64 r] 23)).setCell ⟨rb, 1, none⟩ (.bool true)).cell? ⟨W.heap.size, 0, none⟩ = some (.int .i64 0) := (World.cell?_setCell_other _ _ _ _ (by simp [hne'])).trans r0a
   have r1' : ((w2.alloc (.cells #[.int .i64 t, .int .i64 r] 23)).setCell ⟨rb, 1, none⟩ (.bool true)).cell? ⟨W.heap.size, 1, none⟩ = some (.int .i64 0) := (World.cell?_setCell_other _ _ _ _ (by simp [hne'])).trans r1a
   obtain ⟨q0, q1⟩ := set2 r0' r1' (.int .i64 t) (.int .i64 r)
   have HRF := Lib.hid (((HR2.out.below hba).mark true).below' (((Below.refl base _).setCell (p := ⟨W.heap.size, 0, none⟩) HBS.out.2 (.int .i64 t)).setCell (p := ⟨W.heap.size, 1, none⟩) HBS.out.2 (.int .i64 r)))
   have HGF := Lib.hid (gb_new (o := 1) (u := .int .i64 r) (gb_new (o := 0) (u := .int .i64 t) (gb_set (gb_alloc HG2.out (.cells #[.int .i64 t, .int .i64 r] 23)) 1 (.bool true)) (Nat.le_refl W.heap.size)) (Nat.le_refl _))
   go_wp2
   refine bodyPost_ret (by simp [results, Tryz.results40, go_sem, q0, q1] <;> rfl) rfl ?_
   exact ⟨by rw [HOK.out.2] <;> rfl, by rw [HBF.out]; exact HRF.out, HGF.out⟩
 | inr i =>
  rw [hq] at hp
  obtain ⟨g, rfl, _⟩ := hp
  have HOK := Lib.hid (resBad_no hq)
  have HBF := Lib.hid (show (bad || resBad x) = true from by rw [HOK.out.1]; simp)
  clear hb2 hq
  have hba : Below w2.heap.size w2 (w2.alloc (.cells #[.int .i64 0, .int .i64 0] 23)) := (Below.refl _ _).alloc (Nat.le_refl _) _
  have h1a := cell_keep hba h1
  have f1a := (hba.frozen (p := ⟨rb, 1, none⟩) (lt_of_cell h1)).trans f1
  have r0a := cell_keep hba r0
  have r1a := cell_keep hba r1
  have z0a := (hba.frozen (p := ⟨W.heap.size, 0, none⟩) (lt_of_cell r0)).trans z0
  have z1a := (hba.frozen (p := ⟨W.heap.size, 1, none⟩) (lt_of_cell r0)).trans z1
  cases b1 with
  | false =>
   have r0' : ((w2.alloc (.cells #[.int .i64 0, .int .i64 0] 23)).setCell ⟨rb, 1, none⟩ (.bool true)).cell? ⟨W.heap.size, 0, none⟩ = some (.int .i64 0) := (World.cell?_setCell_other _ _ _ _ (by simp [hne'])).trans r0a
   have r1' : ((w2.alloc (.cells #[.int .i64 0, .int .i64 0] 23)).setCell ⟨rb, 1, none⟩ (.bool true)).cell? ⟨W.heap.size, 1, none⟩ = some (.int .i64 0) := (World.cell?_setCell_other _ _ _ _ (by simp [hne'])).trans r1a
   obtain ⟨q0, q1⟩ := set2 r0' r1' (.int .i64 0) (.int .i64 0)
   have HRF := Lib.hid (((HR2.out.below hba).mark true).below' (((Below.refl base _).setCell (p := ⟨W.heap.size, 0, none⟩) HBS.out.2 (.int .i64 0)).setCell (p := ⟨W.heap.size, 1, none⟩) HBS.out.2 (.int .i64 0)))
   have HGF := Lib.hid (gb_new (o := 1) (u := .int .i64 0) (gb_new (o := 0) (u := .int .i64 0) (gb_set (gb_alloc HG2.out (.cells #[.int .i64 0, .int .i64 0] 23)) 1 (.bool true)) (Nat.le_refl W.heap.size)) (Nat.le_refl _))
   go_wp2
   refine bodyPost_ret (by simp [results, Tryz.results40, go_sem, q0, q1] <;> rfl) rfl ?_
   exact ⟨by rw [HOK.out.2] <;> rfl, by rw [HBF.out]; exact HRF.out, HGF.out⟩
  | true =>
   have r0' : ((w2.alloc (.cells #[.int .i64 0, .int .i64 0] 23)).setCell ⟨rb, 1, none⟩ (.bool true)).cell? ⟨W.heap.size, 0, none⟩ = some (.int .i64 0) := (World.cell?_setCell_other _ _ _ _ (by simp [hne'])).trans r0a
   have r1' : ((w2.alloc (.cells #[.int .i64 0, .int .i64 0] 23)).setCell ⟨rb, 1, none⟩ (.bool true)).cell? ⟨W.heap.size, 1, none⟩ = some (.int .i64 0) := (World.cell?_setCell_other _ _ _ _ (by simp [hne'])).trans r1a
   obtain ⟨q0, q1⟩ := set2 r0' r1' (.int .i64 0) (.int .i64 0)
   have HRF := Lib.hid (((HR2.out.below hba).mark true).below' (((Below.refl base _).setCell (p := ⟨W.heap.size, 0, none⟩) HBS.out.2 (.int .i64 0)).setCell (p := ⟨W.heap.size, 1, none⟩) HBS.out.2 (.int .i64 0)))
   have HGF := Lib.hid (gb_new (o := 1) (u := .int .i64 0) (gb_new (o := 0) (u := .int .i64 0) (gb_set (gb_alloc HG2.out (.cells #[.int .i64 0, .int .i64 0] 23)) 1 (.bool true)) (Nat.le_refl W.heap.size)) (Nat.le_refl _))
   go_wp2
   refine bodyPost_ret (by simp [results, Tryz.results40, go_sem, q0, q1] <;> rfl) rfl ?_
   exact ⟨by rw [HOK.out.2] <;> rfl, by rw [HBF.out]; exact HRF.out, HGF.out⟩
theorem idx_ext {zs : List ByteArray} {x : ByteArray} : Lib.idxOfS zs x = Lib.idxFromS zs x 0 := rfl
theorem bsA_inj {a b : List UInt8} (h : bsA a = bsA b) : a = b := by have := congrArg (fun s : ByteArray => s.data.toList) h; simpa [bsA] using this
theorem idx_mode (x : List UInt8) : (1 ≤ modeT x → Lib.idxOfS ((modesL.map bsA).take 5) (bsA x) = (modeT x : Nat)) ∧ (modeT x = 0 → Lib.idxOfS ((modesL.map bsA).take 5) (bsA x) < 1) := by
 have hne : ∀ l : List UInt8, ¬ x = l → ¬ bsA l = bsA x := fun l h e => h (bsA_inj e).symm
 have e : (modesL.map bsA).take 5 = [bsA [], bsA [73, 83], bsA [73, 88], bsA [83], bsA [88]] := rfl
 rw [e, idx_ext]
 unfold modeT
 by_cases h0 : x = []
 ·subst h0
  simp [Lib.idxFromS]
 by_cases h1 : x = [73, 83]
 ·subst h1
  simp [Lib.idxFromS, hne [] (by decide)]
 by_cases h2 : x = [73, 88]
 ·subst h2
  simp [Lib.idxFromS, hne [] (by decide), hne [73, 83] (by decide)]
 by_cases h3 : x = [83]
 ·subst h3
  simp [Lib.idxFromS, hne [] (by decide), hne [73, 83] (by decide), hne [73, 88] (by decide)]
 by_cases h4 : x = [88]
 ·subst h4
  simp [Lib.idxFromS, hne [] (by decide), hne [73, 83] (by decide), hne [73, 88] (by decide), hne [83] (by decide)]
 simp [Lib.idxFromS, hne [] h0, hne _ h1, hne _ h2, hne _ h3, hne _ h4, h1, h2, h3, h4]
set_option maxRecDepth 100000 in
set_option maxHeartbeats 2000000 in
theorem mode_read (rb base : Nat) (ws : List (List UInt8)) (bad : Bool) (W : World) (h : Rdr W rb base ws bad) (hT : TxW W) (hrb : 9 ≤ rb) :
 Calls Tryz.prog 41 #[.pointer (some ⟨rb, 0, none⟩)] W fun e w' => e = .returned (.int .i64 (modeT (ws.headD []) : Nat)) ∧ Rdr w' rb base ws.tail (bad || decide (modeT (ws.headD []) = 0)) ∧ W.grownBy w' (some rb) := by
 have HRB := Lib.hid (Nat.lt_of_lt_of_le h.lt.1 h.lt.2)
 have HR := Lib.hid h
 have hn0 : ws.isEmpty = true → modeT (ws.headD []) = 0 := fun q => by
  have : ws = [] := by simpa using q
  subst this; rfl
 clear h hT
 obtain ⟨x, hx⟩ : ∃ x, ws.headD [] = x := ⟨_, rfl⟩
 have HX := Lib.hid hx
 rw [hx] at hn0 ⊢
 have HN0 := Lib.hid hn0
 clear hx hn0
 go_enter Tryz.func41, Tryz.ntmps41
 go_wp2_with fail
 refine (modes_at _).mono ?_
 rintro e w1 ⟨rfl, hcs, hb1⟩
 have HNX := Lib.hid (next_any rb base ws bad _ (HR.out.below hb1))
 rw [HX.out] at HNX
 have HCS := Lib.hid hcs
 have HG1 := Lib.hid (gb_below (r := some rb) hb1)
 have HS1 := Lib.hid (show W.heap.size < w1.heap.size from lt_of_cell (hcs 0 (by omega)))
 clear hcs hb1
 go_wp2_with fail
 refine HNX.out.mono ?_
 rintro e w2 ⟨rfl, hr2, hg2⟩
 have HR2 := Lib.hid hr2
 have HG2 := Lib.hid (gb_trans HG1.out hg2)
 have HIX := Lib.hid (Tryz.slices_Index_string W.heap.size 0 5 5 (modesL.map bsA) (bsA x) w2 (by decide) (by decide) (fun j hj => by
  have hj5 : j < 5 := hj
  rw [Nat.zero_add, (gb_cell (o := j) hg2 HS1.out (by have := HRB.out; omega)).1, HCS.out j hj5]
  match j with
  | 0 => rfl
  | 1 => rfl
  | 2 => rfl
  | 3 => rfl
  | 4 => rfl
  | j + 5 => omega))
 obtain ⟨i1, i2⟩ := idx_mode x
 obtain ⟨I, hI⟩ : ∃ I, Lib.idxOfS ((modesL.map bsA).take 5) (bsA x) = I := ⟨_, rfl⟩
 rw [hI] at HIX i1 i2
 clear hI hr2 hg2 HCS
 obtain ⟨_, _, _, _, _, h1, _, f1, _⟩ := id HR2.out
 by_cases hm : modeT x = 0
 ·have hI1 : I < 1 := i2 hm
  have HM := Lib.hid hm
  clear i1 i2 hm
  go_wp2_with fail
  refine HIX.out.mono ?_
  rintro e w3 ⟨rfl, rfl⟩
  go_wp2
  go_ret
  exact ⟨by rw [HM.out]; rfl, by rw [HM.out]; simpa using HR2.out.mark true, gb_set HG2.out 1 _⟩
 ·have hI1 : I = (modeT x : Nat) := i1 (by omega)
  have hm1 : 1 ≤ modeT x := by omega
  have HEM := Lib.hid (show ws.isEmpty = false from by
   cases hw : ws.isEmpty with
   | false => rfl
   | true => exact absurd (HN0.out hw) hm)
  have HMD := Lib.hid (show decide (modeT x = 0) = false from by simpa using hm)
  subst hI1
  clear i1 i2 hm HN0
  obtain ⟨M, hM⟩ : ∃ M, modeT x = M := ⟨_, rfl⟩
  rw [hM] at HIX hm1 HMD
  have HM := Lib.hid hM
  clear hM
  have hI2 : ¬ (M : Int) < 1 := by omega
  go_wp2_with fail
  refine HIX.out.mono ?_
  rintro e w3 ⟨rfl, rfl⟩
  go_wp2
  go_ret
  rw [HM.out]
  exact ⟨rfl, by rw [HMD.out]; have := HR2.out; rw [HEM.out] at this; simpa using this, HG2.out⟩
end Go.Proofs.YtjpjlfjaapfnkaaGreatDoor
namespace Go.Proofs.YtjpjlfjaapfnkaaGreatDoor
open Go.ChangeShapes Go.WideShapes Go.ChangeAt Go.RowKit
open C20 (Ev formB evC)
def evF (k : Nat) (ws : List (List UInt8)) : Ev :=
 match k with
 | 1 => ⟨1, wordN (ws.tail.headD []), wordN (ws.headD []), 0, 0, 0, 0⟩
 | 2 => ⟨2, 0, wordN (ws.headD []), (resR (ws.tail.headD [])).1, (resR (ws.tail.headD [])).2, modeT (ws.tail.tail.headD []), 0⟩
 | 3 => ⟨3, 0, wordN (ws.headD []), (resR (ws.tail.headD [])).1, (resR (ws.tail.headD [])).2, modeT (ws.tail.tail.headD []), 0⟩
 | 4 => ⟨4, 0, wordN (ws.headD []), (resR (ws.tail.headD [])).1, (resR (ws.tail.headD [])).2, 0, wordN (ws.tail.tail.headD [])⟩
 | 5 => ⟨5, 0, wordN (ws.headD []), 0, 0, 0, 0⟩
 | 6 => ⟨6, 0, wordN (ws.headD []), 0, 0, 0, 0⟩
 | 7 => ⟨7, 0, wordN (ws.headD []), 0, 0, 0, wordN (ws.tail.headD [])⟩
 | _ => ⟨8, wordN (ws.headD []), 0, 0, 0, 0, 0⟩
def evB (k : Nat) (ws : List (List UInt8)) : Bool :=
 match k with
 | 1 => (numT (ws.headD [])).isNone || (numT (ws.tail.headD [])).isNone
 | 2 => (numT (ws.headD [])).isNone || (resBad (ws.tail.headD []) || decide (modeT (ws.tail.tail.headD []) = 0))
 | 3 => (numT (ws.headD [])).isNone || (resBad (ws.tail.headD []) || decide (modeT (ws.tail.tail.headD []) = 0))
 | 4 => (numT (ws.headD [])).isNone || (resBad (ws.tail.headD []) || (numT (ws.tail.tail.headD [])).isNone)
 | 5 => (numT (ws.headD [])).isNone
 | 6 => (numT (ws.headD [])).isNone
 | 7 => (numT (ws.headD [])).isNone || (numT (ws.tail.headD [])).isNone
 | _ => (numT (ws.headD [])).isNone
def evRest (k : Nat) (ws : List (List UInt8)) : List (List UInt8) :=
 match k with
 | 1 => ws.tail.tail
 | 2 => ws.tail.tail.tail
 | 3 => ws.tail.tail.tail
 | 4 => ws.tail.tail.tail
 | 5 => ws.tail
 | 6 => ws.tail
 | 7 => ws.tail.tail
 | _ => ws.tail
def Zeros (w : World) (B n : Nat) : Prop := ∀ o, o < n → w.cell? ⟨B, o, none⟩ = some (.int .i64 0) ∧ w.frozen? ⟨B, o, none⟩ = false
theorem Zeros.kept {a b : World} {B n r : Nat} (h : Zeros a B n) (hg : a.grownBy b (some r)) (hB : B < a.heap.size) (hne : B ≠ r) : Zeros b B n := fun o ho => by
 have hc := gb_cell (o := o) hg hB hne
 exact ⟨hc.1.trans (h o ho).1, hc.2.trans (h o ho).2⟩
theorem zeros7 (w : World) (T : TypeId) : Zeros (w.alloc (.cells #[.int .i64 0, .int .i64 0, .int .i64 0, .int .i64 0, .int .i64 0, .int .i64 0, .int .i64 0] T)) w.heap.size 7 := fun o ho => by
 match o with
 | 0 => simp
 | 1 => simp
 | 2 => simp
 | 3 => simp
 | 4 => simp
 | 5 => simp
 | 6 => simp
 | o + 7 => omega
theorem zeros_7 {w : World} {B : Nat} (h : Zeros w B 7) : (w.cell? ⟨B, 0, none⟩ = some (.int .i64 0) ∧ w.frozen? ⟨B, 0, none⟩ = false) ∧ (w.cell? ⟨B, 1, none⟩ = some (.int .i64 0) ∧ w.frozen? ⟨B, 1, none⟩ = false) ∧ (w.cell? ⟨B, 2, none⟩ = some (.int .i64 0) ∧ w.frozen? ⟨B, 2, none⟩ = false) ∧ (w.cell? ⟨B, 3, none⟩ = some (.int .i64 0) ∧ w.frozen? ⟨B, 3, none⟩ = false) ∧ (w.cell? ⟨B, 4, none⟩ = some (.int .i64 0) ∧ w.frozen? ⟨B, 4, none⟩ = false) ∧ (w.cell? ⟨B, 5, none⟩ = some (.int .i64 0) ∧ w.frozen? ⟨B, 5, none⟩ = false) ∧ (w.cell? ⟨B, 6, none⟩ = some (.int .i64 0) ∧ w.frozen? ⟨B, 6, none⟩ = false) :=
 ⟨h 0 (by omega), h 1 (by omega), h 2 (by omega), h 3 (by omega), h 4 (by omega), h 5 (by omega), h 6 (by omega)⟩
def put7 (w : World) (B : Nat) (y0 y1 y2 y3 y4 y5 y6 : Value) : World := ((((((w.setCell ⟨B, 0, none⟩ y0).setCell ⟨B, 1, none⟩ y1).setCell ⟨B, 2, none⟩ y2).setCell ⟨B, 3, none⟩ y3).setCell ⟨B, 4, none⟩ y4).setCell ⟨B, 5, none⟩ y5).setCell ⟨B, 6, none⟩ y6
theorem put7_below {w : World} {B base : Nat} (h : base ≤ B) (y0 y1 y2 y3 y4 y5 y6 : Value) : Below base w (put7 w B y0 y1 y2 y3 y4 y5 y6) :=
 (((((((Below.refl _ _).setCell (p := ⟨B, 0, none⟩) h y0).setCell (p := ⟨B, 1, none⟩) h y1).setCell (p := ⟨B, 2, none⟩) h y2).setCell (p := ⟨B, 3, none⟩) h y3).setCell (p := ⟨B, 4, none⟩) h y4).setCell (p := ⟨B, 5, none⟩) h y5).setCell (p := ⟨B, 6, none⟩) h y6
theorem put7_gb {a w : World} {B : Nat} {r : Option Nat} (hg : a.grownBy w r) (h : a.heap.size ≤ B) (y0 y1 y2 y3 y4 y5 y6 : Value) : a.grownBy (put7 w B y0 y1 y2 y3 y4 y5 y6) r :=
 gb_new (gb_new (gb_new (gb_new (gb_new (gb_new (gb_new hg h) h) h) h) h) h) h
theorem set7 {W : World} {b : Nat} {x0 x1 x2 x3 x4 x5 x6 : Value} (h0 : W.cell? ⟨b, 0, none⟩ = some x0) (h1 : W.cell? ⟨b, 1, none⟩ = some x1) (h2 : W.cell? ⟨b, 2, none⟩ = some x2) (h3 : W.cell? ⟨b, 3, none⟩ = some x3) (h4 : W.cell? ⟨b, 4, none⟩ = some x4) (h5 : W.cell? ⟨b, 5, none⟩ = some x5) (h6 : W.cell? ⟨b, 6, none⟩ = some x6) (y0 y1 y2 y3 y4 y5 y6 : Value) :
 (((((((W.setCell ⟨b, 0, none⟩ y0).setCell ⟨b, 1, none⟩ y1).setCell ⟨b, 2, none⟩ y2).setCell ⟨b, 3, none⟩ y3).setCell ⟨b, 4, none⟩ y4).setCell ⟨b, 5, none⟩ y5).setCell ⟨b, 6, none⟩ y6).cell? ⟨b, 0, none⟩ = some y0 ∧
 (((((((W.setCell ⟨b, 0, none⟩ y0).setCell ⟨b, 1, none⟩ y1).setCell ⟨b, 2, none⟩ y2).setCell ⟨b, 3, none⟩ y3).setCell ⟨b, 4, none⟩ y4).setCell ⟨b, 5, none⟩ y5).setCell ⟨b, 6, none⟩ y6).cell? ⟨b, 1, none⟩ = some y1 ∧
 (((((((W.setCell ⟨b, 0, none⟩ y0).setCell ⟨b, 1, none⟩ y1).setCell ⟨b, 2, none⟩ y2).setCell ⟨b, 3, none⟩ y3).setCell ⟨b, 4, none⟩ y4).setCell ⟨b, 5, none⟩ y5).setCell ⟨b, 6, none⟩ y6).cell? ⟨b, 2, none⟩ = some y2 ∧
 (((((((W.setCell ⟨b, 0, none⟩ y0).setCell ⟨b, 1, none⟩ y1).setCell ⟨b, 2, none⟩ y2).setCell ⟨b, 3, none⟩ y3).setCell ⟨b, 4, none⟩ y4).setCell ⟨b, 5, none⟩ y5).setCell ⟨b, 6, none⟩ y6).cell? ⟨b, 3, none⟩ = some y3 ∧
 (((((((W.setCell ⟨b, 0, none⟩ y0).setCell ⟨b, 1, none⟩ y1).setCell ⟨b, 2, none⟩ y2).setCell ⟨b, 3, none⟩ y3).setCell ⟨b, 4, none⟩ y4).setCell ⟨b, 5, none⟩ y5).setCell ⟨b, 6, none⟩ y6).cell? ⟨b, 4, none⟩ = some y4 ∧
 (((((((W.setCell ⟨b, 0, none⟩ y0).setCell ⟨b, 1, none⟩ y1).setCell ⟨b, 2, none⟩ y2).setCell ⟨b, 3, none⟩ y3).setCell ⟨b, 4, none⟩ y4).setCell ⟨b, 5, none⟩ y5).setCell ⟨b, 6, none⟩ y6).cell? ⟨b, 5, none⟩ = some y5 ∧
 (((((((W.setCell ⟨b, 0, none⟩ y0).setCell ⟨b, 1, none⟩ y1).setCell ⟨b, 2, none⟩ y2).setCell ⟨b, 3, none⟩ y3).setCell ⟨b, 4, none⟩ y4).setCell ⟨b, 5, none⟩ y5).setCell ⟨b, 6, none⟩ y6).cell? ⟨b, 6, none⟩ = some y6 := by
 simp [go_sem, h0, h1, h2, h3, h4, h5, h6]
theorem heads {ws : List (List UInt8)} {M : Nat} (h : ∀ w ∈ ws, w.length ≤ M) : ∀ n, ((Nat.repeat List.tail n ws).headD []).length ≤ M := by
 intro n
 have : ∀ (n : Nat) (w : List UInt8), w ∈ Nat.repeat List.tail n ws → w ∈ ws := by
  intro n
  induction n with
  | zero => exact fun w h => h
  | succ n ih => exact fun w h => ih w (List.mem_of_mem_tail h)
 cases hl : Nat.repeat List.tail n ws with
 | nil => simp
 | cons a r => exact h a (this n a (by rw [hl]; exact List.mem_cons_self))
set_option maxRecDepth 100000 in
set_option maxHeartbeats 2000000 in
theorem ev1_read (rb base : Nat) (ws : List (List UInt8)) (bad : Bool) (W : World) (h : Rdr W rb base ws bad) (hT : TxW W) (hrb : 9 ≤ rb) (hs : ∀ w ∈ ws, w.length ≤ 140737488355328) :
 Calls Tryz.prog 52 #[.pointer (some ⟨rb, 0, none⟩)] W fun e w' => e = .returned (.agg (evC (evF 1 ws))) ∧ Rdr w' rb base (evRest 1 ws) (bad || evB 1 ws) ∧ W.grownBy w' (some rb) := by
 have hbA : Below W.heap.size W (W.alloc (.cells #[.int .i64 0, .int .i64 0, .int .i64 0, .int .i64 0, .int .i64 0, .int .i64 0, .int .i64 0] 44)) := (Below.refl _ _).alloc (Nat.le_refl _) _
 have HB := Lib.hid h.lt
 have HNE := Lib.hid (show W.heap.size ≠ rb from by have := h.lt; omega)
 have HR0 := Lib.hid (h.below hbA)
 have HT0 := Lib.hid (hT.below hbA)
 have HG0 := Lib.hid (World.grownBy_alloc W (.cells #[.int .i64 0, .int .i64 0, .int .i64 0, .int .i64 0, .int .i64 0, .int .i64 0, .int .i64 0] 44) (some rb))
 have HZ0 := Lib.hid (show Zeros (W.alloc (.cells #[.int .i64 0, .int .i64 0, .int .i64 0, .int .i64 0, .int .i64 0, .int .i64 0, .int .i64 0] 44)) W.heap.size 7 from zeros7 W _)
 have HSZ := Lib.hid (show W.heap.size < (W.alloc (.cells #[.int .i64 0, .int .i64 0, .int .i64 0, .int .i64 0, .int .i64 0, .int .i64 0, .int .i64 0] 44)).heap.size from by simp)
 have HS := Lib.hid hs
 obtain ⟨v1, hv1⟩ : ∃ v, wordN (ws.headD []) = v := ⟨_, rfl⟩
 obtain ⟨v2, hv2⟩ : ∃ v, wordN (ws.tail.headD []) = v := ⟨_, rfl⟩
 have HE := Lib.hid (show evF 1 ws = ⟨1, v2, v1, 0, 0, 0, 0⟩ from by unfold evF; simp only [hv1, hv2])
 have HV1 := Lib.hid hv1
 have HV2 := Lib.hid hv2
 clear h hT hs hbA hv1 hv2
 rw [HE.out]
 unfold evC
 simp only
 go_enter Tryz.func52, Tryz.ntmps52
 have HC1 := Lib.hid (num_read rb base (ws) (bad) _ HR0.out HT0.out hrb (heads HS.out 0))
 rw [HV1.out] at HC1
 go_wp2_with fail
 refine HC1.out.mono ?_
 rintro e w1 ⟨rfl, hr1, hg1⟩
 have HR1 := Lib.hid hr1
 have HT1 := Lib.hid (HT0.out.grown hg1 hrb)
 have HG1 := Lib.hid (gb_trans HG0.out hg1)
 have HZ1 := Lib.hid (HZ0.out.kept hg1 HSZ.out HNE.out)
 have HSZ1 := Lib.hid (Nat.lt_of_lt_of_le HSZ.out hg1.size)
 clear hr1 hg1 HC1
 have HC2 := Lib.hid (num_read rb base (ws.tail) (bad || (numT (ws.headD [])).isNone) _ HR1.out HT1.out hrb (heads HS.out 1))
 rw [HV2.out] at HC2
 go_wp2_with fail
 refine HC2.out.mono ?_
 rintro e w2 ⟨rfl, hr2, hg2⟩
 have HR2 := Lib.hid hr2
 have HT2 := Lib.hid (HT1.out.grown hg2 hrb)
 have HG2 := Lib.hid (gb_trans HG1.out hg2)
 have HZ2 := Lib.hid (HZ1.out.kept hg2 HSZ1.out HNE.out)
 have HSZ2 := Lib.hid (Nat.lt_of_lt_of_le HSZ1.out hg2.size)
 clear hr2 hg2 HC2
 obtain ⟨⟨r0, z0⟩, ⟨r1, z1⟩, ⟨r2, z2⟩, ⟨r3, z3⟩, ⟨r4, z4⟩, ⟨r5, z5⟩, ⟨r6, z6⟩⟩ := zeros_7 HZ2.out
 obtain ⟨q0, q1, q2', q3, q4, q5, q6⟩ := set7 r0 r1 r2 r3 r4 r5 r6 (.int .i64 1) (.int .i64 v2) (.int .i64 v1) (.int .i64 0) (.int .i64 0) (.int .i64 0) (.int .i64 0)
 go_wp2
 refine bodyPost_ret (by simp [results, Tryz.results52, go_sem, q0, q1, q2', q3, q4, q5, q6] <;> rfl) rfl ?_
 refine ⟨rfl, ?_, put7_gb HG2.out (Nat.le_refl _) (.int .i64 1) (.int .i64 v2) (.int .i64 v1) (.int .i64 0) (.int .i64 0) (.int .i64 0) (.int .i64 0)⟩
 have HBE := Lib.hid (show (bad || evB 1 ws) = (bad || (numT (ws.headD [])).isNone || (numT (ws.tail.headD [])).isNone) from by unfold evB; simp only [Bool.or_assoc])
 rw [HBE.out]
 exact HR2.out.below' (put7_below (w := w2) HB.out.2 (.int .i64 1) (.int .i64 v2) (.int .i64 v1) (.int .i64 0) (.int .i64 0) (.int .i64 0) (.int .i64 0))
set_option maxRecDepth 100000 in
set_option maxHeartbeats 2000000 in
theorem ev2_read (rb base : Nat) (ws : List (List UInt8)) (bad : Bool) (W : World) (h : Rdr W rb base ws bad) (hT : TxW W) (hrb : 9 ≤ rb) (hs : ∀ w ∈ ws, w.length ≤ 140737488355328) :
 Calls Tryz.prog 53 #[.pointer (some ⟨rb, 0, none⟩)] W fun e w' => e = .returned (.agg (evC (evF 2 ws))) ∧ Rdr w' rb base (evRest 2 ws) (bad || evB 2 ws) ∧ W.grownBy w' (some rb) := by
 have hbA : Below W.heap.size W (W.alloc (.cells #[.int .i64 0, .int .i64 0, .int .i64 0, .int .i64 0, .int .i64 0, .int .i64 0, .int .i64 0] 44)) := (Below.refl _ _).alloc (Nat.le_refl _) _
 have HB := Lib.hid h.lt
 have HNE := Lib.hid (show W.heap.size ≠ rb from by have := h.lt; omega)
 have HR0 := Lib.hid (h.below hbA)
 have HT0 := Lib.hid (hT.below hbA)
 have HG0 := Lib.hid (World.grownBy_alloc W (.cells #[.int .i64 0, .int .i64 0, .int .i64 0, .int .i64 0, .int .i64 0, .int .i64 0, .int .i64 0] 44) (some rb))
 have HZ0 := Lib.hid (show Zeros (W.alloc (.cells #[.int .i64 0, .int .i64 0, .int .i64 0, .int .i64 0, .int .i64 0, .int .i64 0, .int .i64 0] 44)) W.heap.size 7 from zeros7 W _)
 have HSZ := Lib.hid (show W.heap.size < (W.alloc (.cells #[.int .i64 0, .int .i64 0, .int .i64 0, .int .i64 0, .int .i64 0, .int .i64 0, .int .i64 0] 44)).heap.size from by simp)
 have HS := Lib.hid hs
 obtain ⟨v1, hv1⟩ : ∃ v, wordN (ws.headD []) = v := ⟨_, rfl⟩
 obtain ⟨⟨p2, q2⟩, hv2⟩ : ∃ v, resR (ws.tail.headD []) = v := ⟨_, rfl⟩
 obtain ⟨v3, hv3⟩ : ∃ v, modeT (ws.tail.tail.headD []) = v := ⟨_, rfl⟩
 have HE := Lib.hid (show evF 2 ws = ⟨2, 0, v1, (p2 : Int), (q2 : Int), (v3 : Int), 0⟩ from by unfold evF; simp only [hv1, hv2, hv3])
 have HV1 := Lib.hid hv1
 have HV2 := Lib.hid hv2
 have HV3 := Lib.hid hv3
 clear h hT hs hbA hv1 hv2 hv3
 rw [HE.out]
 unfold evC
 simp only
 go_enter Tryz.func53, Tryz.ntmps53
 have HC1 := Lib.hid (num_read rb base (ws) (bad) _ HR0.out HT0.out hrb (heads HS.out 0))
 rw [HV1.out] at HC1
 go_wp2_with fail
 refine HC1.out.mono ?_
 rintro e w1 ⟨rfl, hr1, hg1⟩
 have HR1 := Lib.hid hr1
 have HT1 := Lib.hid (HT0.out.grown hg1 hrb)
 have HG1 := Lib.hid (gb_trans HG0.out hg1)
 have HZ1 := Lib.hid (HZ0.out.kept hg1 HSZ.out HNE.out)
 have HSZ1 := Lib.hid (Nat.lt_of_lt_of_le HSZ.out hg1.size)
 clear hr1 hg1 HC1
 have HC2 := Lib.hid (place_read rb base (ws.tail) (bad || (numT (ws.headD [])).isNone) _ HR1.out HT1.out hrb (heads HS.out 1))
 rw [HV2.out] at HC2
 go_wp2_with fail
 refine HC2.out.mono ?_
 rintro e w2 ⟨rfl, hr2, hg2⟩
 have HR2 := Lib.hid hr2
 have HT2 := Lib.hid (HT1.out.grown hg2 hrb)
 have HG2 := Lib.hid (gb_trans HG1.out hg2)
 have HZ2 := Lib.hid (HZ1.out.kept hg2 HSZ1.out HNE.out)
 have HSZ2 := Lib.hid (Nat.lt_of_lt_of_le HSZ1.out hg2.size)
 clear hr2 hg2 HC2
 have HC3 := Lib.hid (mode_read rb base (ws.tail.tail) (bad || (numT (ws.headD [])).isNone || resBad (ws.tail.headD [])) _ HR2.out HT2.out hrb)
 rw [HV3.out] at HC3
 go_wp2_with fail
 refine HC3.out.mono ?_
 rintro e w3 ⟨rfl, hr3, hg3⟩
 have HR3 := Lib.hid hr3
 have HT3 := Lib.hid (HT2.out.grown hg3 hrb)
 have HG3 := Lib.hid (gb_trans HG2.out hg3)
 have HZ3 := Lib.hid (HZ2.out.kept hg3 HSZ2.out HNE.out)
 have HSZ3 := Lib.hid (Nat.lt_of_lt_of_le HSZ2.out hg3.size)
 clear hr3 hg3 HC3
 obtain ⟨⟨r0, z0⟩, ⟨r1, z1⟩, ⟨r2, z2⟩, ⟨r3, z3⟩, ⟨r4, z4⟩, ⟨r5, z5⟩, ⟨r6, z6⟩⟩ := zeros_7 HZ3.out
 obtain ⟨q0, q1, q2', q3, q4, q5, q6⟩ := set7 r0 r1 r2 r3 r4 r5 r6 (.int .i64 2) (.int .i64 0) (.int .i64 v1) (.int .i64 (p2 : Int)) (.int .i64 (q2 : Int)) (.int .i64 (v3 : Int)) (.int .i64 0)
 go_wp2
 refine bodyPost_ret (by simp [results, Tryz.results53, go_sem, q0, q1, q2', q3, q4, q5, q6] <;> rfl) rfl ?_
 refine ⟨rfl, ?_, put7_gb HG3.out (Nat.le_refl _) (.int .i64 2) (.int .i64 0) (.int .i64 v1) (.int .i64 (p2 : Int)) (.int .i64 (q2 : Int)) (.int .i64 (v3 : Int)) (.int .i64 0)⟩
 have HBE := Lib.hid (show (bad || evB 2 ws) = (bad || (numT (ws.headD [])).isNone || resBad (ws.tail.headD []) || decide (v3 = 0)) from by unfold evB; simp only [Bool.or_assoc, HV3.out])
 rw [HBE.out]
 exact HR3.out.below' (put7_below (w := w3) HB.out.2 (.int .i64 2) (.int .i64 0) (.int .i64 v1) (.int .i64 (p2 : Int)) (.int .i64 (q2 : Int)) (.int .i64 (v3 : Int)) (.int .i64 0))
set_option maxRecDepth 100000 in
set_option maxHeartbeats 2000000 in
theorem ev3_read (rb base : Nat) (ws : List (List UInt8)) (bad : Bool) (W : World) (h : Rdr W rb base ws bad) (hT : TxW W) (hrb : 9 ≤ rb) (hs : ∀ w ∈ ws, w.length ≤ 140737488355328) :
 Calls Tryz.prog 54 #[.pointer (some ⟨rb, 0, none⟩)] W fun e w' => e = .returned (.agg (evC (evF 3 ws))) ∧ Rdr w' rb base (evRest 3 ws) (bad || evB 3 ws) ∧ W.grownBy w' (some rb) := by
 have hbA : Below W.heap.size W (W.alloc (.cells #[.int .i64 0, .int .i64 0, .int .i64 0, .int .i64 0, .int .i64 0, .int .i64 0, .int .i64 0] 44)) := (Below.refl _ _).alloc (Nat.le_refl _) _
 have HB := Lib.hid h.lt
 have HNE := Lib.hid (show W.heap.size ≠ rb from by have := h.lt; omega)
 have HR0 := Lib.hid (h.below hbA)
 have HT0 := Lib.hid (hT.below hbA)
 have HG0 := Lib.hid (World.grownBy_alloc W (.cells #[.int .i64 0, .int .i64 0, .int .i64 0, .int .i64 0, .int .i64 0, .int .i64 0, .int .i64 0] 44) (some rb))
 have HZ0 := Lib.hid (show Zeros (W.alloc (.cells #[.int .i64 0, .int .i64 0, .int .i64 0, .int .i64 0, .int .i64 0, .int .i64 0, .int .i64 0] 44)) W.heap.size 7 from zeros7 W _)
 have HSZ := Lib.hid (show W.heap.size < (W.alloc (.cells #[.int .i64 0, .int .i64 0, .int .i64 0, .int .i64 0, .int .i64 0, .int .i64 0, .int .i64 0] 44)).heap.size from by simp)
 have HS := Lib.hid hs
 obtain ⟨v1, hv1⟩ : ∃ v, wordN (ws.headD []) = v := ⟨_, rfl⟩
 obtain ⟨⟨p2, q2⟩, hv2⟩ : ∃ v, resR (ws.tail.headD []) = v := ⟨_, rfl⟩
 obtain ⟨v3, hv3⟩ : ∃ v, modeT (ws.tail.tail.headD []) = v := ⟨_, rfl⟩
 have HE := Lib.hid (show evF 3 ws = ⟨3, 0, v1, (p2 : Int), (q2 : Int), (v3 : Int), 0⟩ from by unfold evF; simp only [hv1, hv2, hv3])
 have HV1 := Lib.hid hv1
 have HV2 := Lib.hid hv2
 have HV3 := Lib.hid hv3
 clear h hT hs hbA hv1 hv2 hv3
 rw [HE.out]
 unfold evC
 simp only
 go_enter Tryz.func54, Tryz.ntmps54
 have HC1 := Lib.hid (num_read rb base (ws) (bad) _ HR0.out HT0.out hrb (heads HS.out 0))
 rw [HV1.out] at HC1
 go_wp2_with fail
 refine HC1.out.mono ?_
 rintro e w1 ⟨rfl, hr1, hg1⟩
 have HR1 := Lib.hid hr1
 have HT1 := Lib.hid (HT0.out.grown hg1 hrb)
 have HG1 := Lib.hid (gb_trans HG0.out hg1)
 have HZ1 := Lib.hid (HZ0.out.kept hg1 HSZ.out HNE.out)
 have HSZ1 := Lib.hid (Nat.lt_of_lt_of_le HSZ.out hg1.size)
 clear hr1 hg1 HC1
 have HC2 := Lib.hid (place_read rb base (ws.tail) (bad || (numT (ws.headD [])).isNone) _ HR1.out HT1.out hrb (heads HS.out 1))
 rw [HV2.out] at HC2
 go_wp2_with fail
 refine HC2.out.mono ?_
 rintro e w2 ⟨rfl, hr2, hg2⟩
 have HR2 := Lib.hid hr2
 have HT2 := Lib.hid (HT1.out.grown hg2 hrb)
 have HG2 := Lib.hid (gb_trans HG1.out hg2)
 have HZ2 := Lib.hid (HZ1.out.kept hg2 HSZ1.out HNE.out)
 have HSZ2 := Lib.hid (Nat.lt_of_lt_of_le HSZ1.out hg2.size)
 clear hr2 hg2 HC2
 have HC3 := Lib.hid (mode_read rb base (ws.tail.tail) (bad || (numT (ws.headD [])).isNone || resBad (ws.tail.headD [])) _ HR2.out HT2.out hrb)
 rw [HV3.out] at HC3
 go_wp2_with fail
 refine HC3.out.mono ?_
 rintro e w3 ⟨rfl, hr3, hg3⟩
 have HR3 := Lib.hid hr3
 have HT3 := Lib.hid (HT2.out.grown hg3 hrb)
 have HG3 := Lib.hid (gb_trans HG2.out hg3)
 have HZ3 := Lib.hid (HZ2.out.kept hg3 HSZ2.out HNE.out)
 have HSZ3 := Lib.hid (Nat.lt_of_lt_of_le HSZ2.out hg3.size)
 clear hr3 hg3 HC3
 obtain ⟨⟨r0, z0⟩, ⟨r1, z1⟩, ⟨r2, z2⟩, ⟨r3, z3⟩, ⟨r4, z4⟩, ⟨r5, z5⟩, ⟨r6, z6⟩⟩ := zeros_7 HZ3.out
 obtain ⟨q0, q1, q2', q3, q4, q5, q6⟩ := set7 r0 r1 r2 r3 r4 r5 r6 (.int .i64 3) (.int .i64 0) (.int .i64 v1) (.int .i64 (p2 : Int)) (.int .i64 (q2 : Int)) (.int .i64 (v3 : Int)) (.int .i64 0)
 go_wp2
 refine bodyPost_ret (by simp [results, Tryz.results54, go_sem, q0, q1, q2', q3, q4, q5, q6] <;> rfl) rfl ?_
 refine ⟨rfl, ?_, put7_gb HG3.out (Nat.le_refl _) (.int .i64 3) (.int .i64 0) (.int .i64 v1) (.int .i64 (p2 : Int)) (.int .i64 (q2 : Int)) (.int .i64 (v3 : Int)) (.int .i64 0)⟩
 have HBE := Lib.hid (show (bad || evB 3 ws) = (bad || (numT (ws.headD [])).isNone || resBad (ws.tail.headD []) || decide (v3 = 0)) from by unfold evB; simp only [Bool.or_assoc, HV3.out])
 rw [HBE.out]
 exact HR3.out.below' (put7_below (w := w3) HB.out.2 (.int .i64 3) (.int .i64 0) (.int .i64 v1) (.int .i64 (p2 : Int)) (.int .i64 (q2 : Int)) (.int .i64 (v3 : Int)) (.int .i64 0))
set_option maxRecDepth 100000 in
set_option maxHeartbeats 2000000 in
theorem ev4_read (rb base : Nat) (ws : List (List UInt8)) (bad : Bool) (W : World) (h : Rdr W rb base ws bad) (hT : TxW W) (hrb : 9 ≤ rb) (hs : ∀ w ∈ ws, w.length ≤ 140737488355328) :
 Calls Tryz.prog 55 #[.pointer (some ⟨rb, 0, none⟩)] W fun e w' => e = .returned (.agg (evC (evF 4 ws))) ∧ Rdr w' rb base (evRest 4 ws) (bad || evB 4 ws) ∧ W.grownBy w' (some rb) := by
 have hbA : Below W.heap.size W (W.alloc (.cells #[.int .i64 0, .int .i64 0, .int .i64 0, .int .i64 0, .int .i64 0, .int .i64 0, .int .i64 0] 44)) := (Below.refl _ _).alloc (Nat.le_refl _) _
 have HB := Lib.hid h.lt
 have HNE := Lib.hid (show W.heap.size ≠ rb from by have := h.lt; omega)
 have HR0 := Lib.hid (h.below hbA)
 have HT0 := Lib.hid (hT.below hbA)
 have HG0 := Lib.hid (World.grownBy_alloc W (.cells #[.int .i64 0, .int .i64 0, .int .i64 0, .int .i64 0, .int .i64 0, .int .i64 0, .int .i64 0] 44) (some rb))
 have HZ0 := Lib.hid (show Zeros (W.alloc (.cells #[.int .i64 0, .int .i64 0, .int .i64 0, .int .i64 0, .int .i64 0, .int .i64 0, .int .i64 0] 44)) W.heap.size 7 from zeros7 W _)
 have HSZ := Lib.hid (show W.heap.size < (W.alloc (.cells #[.int .i64 0, .int .i64 0, .int .i64 0, .int .i64 0, .int .i64 0, .int .i64 0, .int .i64 0] 44)).heap.size from by simp)
 have HS := Lib.hid hs
 obtain ⟨v1, hv1⟩ : ∃ v, wordN (ws.headD []) = v := ⟨_, rfl⟩
 obtain ⟨⟨p2, q2⟩, hv2⟩ : ∃ v, resR (ws.tail.headD []) = v := ⟨_, rfl⟩
 obtain ⟨v3, hv3⟩ : ∃ v, wordN (ws.tail.tail.headD []) = v := ⟨_, rfl⟩
 have HE := Lib.hid (show evF 4 ws = ⟨4, 0, v1, (p2 : Int), (q2 : Int), 0, v3⟩ from by unfold evF; simp only [hv1, hv2, hv3])
 have HV1 := Lib.hid hv1
 have HV2 := Lib.hid hv2
 have HV3 := Lib.hid hv3
 clear h hT hs hbA hv1 hv2 hv3
 rw [HE.out]
 unfold evC
 simp only
 go_enter Tryz.func55, Tryz.ntmps55
 have HC1 := Lib.hid (num_read rb base (ws) (bad) _ HR0.out HT0.out hrb (heads HS.out 0))
 rw [HV1.out] at HC1
 go_wp2_with fail
 refine HC1.out.mono ?_
 rintro e w1 ⟨rfl, hr1, hg1⟩
 have HR1 := Lib.hid hr1
 have HT1 := Lib.hid (HT0.out.grown hg1 hrb)
 have HG1 := Lib.hid (gb_trans HG0.out hg1)
 have HZ1 := Lib.hid (HZ0.out.kept hg1 HSZ.out HNE.out)
 have HSZ1 := Lib.hid (Nat.lt_of_lt_of_le HSZ.out hg1.size)
 clear hr1 hg1 HC1
 have HC2 := Lib.hid (place_read rb base (ws.tail) (bad || (numT (ws.headD [])).isNone) _ HR1.out HT1.out hrb (heads HS.out 1))
 rw [HV2.out] at HC2
 go_wp2_with fail
 refine HC2.out.mono ?_
 rintro e w2 ⟨rfl, hr2, hg2⟩
 have HR2 := Lib.hid hr2
 have HT2 := Lib.hid (HT1.out.grown hg2 hrb)
 have HG2 := Lib.hid (gb_trans HG1.out hg2)
 have HZ2 := Lib.hid (HZ1.out.kept hg2 HSZ1.out HNE.out)
 have HSZ2 := Lib.hid (Nat.lt_of_lt_of_le HSZ1.out hg2.size)
 clear hr2 hg2 HC2
 have HC3 := Lib.hid (num_read rb base (ws.tail.tail) (bad || (numT (ws.headD [])).isNone || resBad (ws.tail.headD [])) _ HR2.out HT2.out hrb (heads HS.out 2))
 rw [HV3.out] at HC3
 go_wp2_with fail
 refine HC3.out.mono ?_
 rintro e w3 ⟨rfl, hr3, hg3⟩
 have HR3 := Lib.hid hr3
 have HT3 := Lib.hid (HT2.out.grown hg3 hrb)
 have HG3 := Lib.hid (gb_trans HG2.out hg3)
 have HZ3 := Lib.hid (HZ2.out.kept hg3 HSZ2.out HNE.out)
 have HSZ3 := Lib.hid (Nat.lt_of_lt_of_le HSZ2.out hg3.size)
 clear hr3 hg3 HC3
 obtain ⟨⟨r0, z0⟩, ⟨r1, z1⟩, ⟨r2, z2⟩, ⟨r3, z3⟩, ⟨r4, z4⟩, ⟨r5, z5⟩, ⟨r6, z6⟩⟩ := zeros_7 HZ3.out
 obtain ⟨q0, q1, q2', q3, q4, q5, q6⟩ := set7 r0 r1 r2 r3 r4 r5 r6 (.int .i64 4) (.int .i64 0) (.int .i64 v1) (.int .i64 (p2 : Int)) (.int .i64 (q2 : Int)) (.int .i64 0) (.int .i64 v3)
 go_wp2
 refine bodyPost_ret (by simp [results, Tryz.results55, go_sem, q0, q1, q2', q3, q4, q5, q6] <;> rfl) rfl ?_
 refine ⟨rfl, ?_, put7_gb HG3.out (Nat.le_refl _) (.int .i64 4) (.int .i64 0) (.int .i64 v1) (.int .i64 (p2 : Int)) (.int .i64 (q2 : Int)) (.int .i64 0) (.int .i64 v3)⟩
 have HBE := Lib.hid (show (bad || evB 4 ws) = (bad || (numT (ws.headD [])).isNone || resBad (ws.tail.headD []) || (numT (ws.tail.tail.headD [])).isNone) from by unfold evB; simp only [Bool.or_assoc])
 rw [HBE.out]
 exact HR3.out.below' (put7_below (w := w3) HB.out.2 (.int .i64 4) (.int .i64 0) (.int .i64 v1) (.int .i64 (p2 : Int)) (.int .i64 (q2 : Int)) (.int .i64 0) (.int .i64 v3))
set_option maxRecDepth 100000 in
set_option maxHeartbeats 2000000 in
theorem ev5_read (rb base : Nat) (ws : List (List UInt8)) (bad : Bool) (W : World) (h : Rdr W rb base ws bad) (hT : TxW W) (hrb : 9 ≤ rb) (hs : ∀ w ∈ ws, w.length ≤ 140737488355328) :
 Calls Tryz.prog 56 #[.pointer (some ⟨rb, 0, none⟩)] W fun e w' => e = .returned (.agg (evC (evF 5 ws))) ∧ Rdr w' rb base (evRest 5 ws) (bad || evB 5 ws) ∧ W.grownBy w' (some rb) := by
 have hbA : Below W.heap.size W (W.alloc (.cells #[.int .i64 0, .int .i64 0, .int .i64 0, .int .i64 0, .int .i64 0, .int .i64 0, .int .i64 0] 44)) := (Below.refl _ _).alloc (Nat.le_refl _) _
 have HB := Lib.hid h.lt
 have HNE := Lib.hid (show W.heap.size ≠ rb from by have := h.lt; omega)
 have HR0 := Lib.hid (h.below hbA)
 have HT0 := Lib.hid (hT.below hbA)
 have HG0 := Lib.hid (World.grownBy_alloc W (.cells #[.int .i64 0, .int .i64 0, .int .i64 0, .int .i64 0, .int .i64 0, .int .i64 0, .int .i64 0] 44) (some rb))
 have HZ0 := Lib.hid (show Zeros (W.alloc (.cells #[.int .i64 0, .int .i64 0, .int .i64 0, .int .i64 0, .int .i64 0, .int .i64 0, .int .i64 0] 44)) W.heap.size 7 from zeros7 W _)
 have HSZ := Lib.hid (show W.heap.size < (W.alloc (.cells #[.int .i64 0, .int .i64 0, .int .i64 0, .int .i64 0, .int .i64 0, .int .i64 0, .int .i64 0] 44)).heap.size from by simp)
 have HS := Lib.hid hs
 obtain ⟨v1, hv1⟩ : ∃ v, wordN (ws.headD []) = v := ⟨_, rfl⟩
 have HE := Lib.hid (show evF 5 ws = ⟨5, 0, v1, 0, 0, 0, 0⟩ from by unfold evF; simp only [hv1])
 have HV1 := Lib.hid hv1
 clear h hT hs hbA hv1
 rw [HE.out]
 unfold evC
 simp only
 go_enter Tryz.func56, Tryz.ntmps56
 have HC1 := Lib.hid (num_read rb base (ws) (bad) _ HR0.out HT0.out hrb (heads HS.out 0))
 rw [HV1.out] at HC1
 go_wp2_with fail
 refine HC1.out.mono ?_
 rintro e w1 ⟨rfl, hr1, hg1⟩
 have HR1 := Lib.hid hr1
 have HT1 := Lib.hid (HT0.out.grown hg1 hrb)
 have HG1 := Lib.hid (gb_trans HG0.out hg1)
 have HZ1 := Lib.hid (HZ0.out.kept hg1 HSZ.out HNE.out)
 have HSZ1 := Lib.hid (Nat.lt_of_lt_of_le HSZ.out hg1.size)
 clear hr1 hg1 HC1
 obtain ⟨⟨r0, z0⟩, ⟨r1, z1⟩, ⟨r2, z2⟩, ⟨r3, z3⟩, ⟨r4, z4⟩, ⟨r5, z5⟩, ⟨r6, z6⟩⟩ := zeros_7 HZ1.out
 obtain ⟨q0, q1, q2', q3, q4, q5, q6⟩ := set7 r0 r1 r2 r3 r4 r5 r6 (.int .i64 5) (.int .i64 0) (.int .i64 v1) (.int .i64 0) (.int .i64 0) (.int .i64 0) (.int .i64 0)
 go_wp2
 refine bodyPost_ret (by simp [results, Tryz.results56, go_sem, q0, q1, q2', q3, q4, q5, q6] <;> rfl) rfl ?_
 refine ⟨rfl, ?_, put7_gb HG1.out (Nat.le_refl _) (.int .i64 5) (.int .i64 0) (.int .i64 v1) (.int .i64 0) (.int .i64 0) (.int .i64 0) (.int .i64 0)⟩
 have HBE := Lib.hid (show (bad || evB 5 ws) = (bad || (numT (ws.headD [])).isNone) from by unfold evB; simp only [Bool.or_assoc])
 rw [HBE.out]
 exact HR1.out.below' (put7_below (w := w1) HB.out.2 (.int .i64 5) (.int .i64 0) (.int .i64 v1) (.int .i64 0) (.int .i64 0) (.int .i64 0) (.int .i64 0))
set_option maxRecDepth 100000 in
set_option maxHeartbeats 2000000 in
theorem ev6_read (rb base : Nat) (ws : List (List UInt8)) (bad : Bool) (W : World) (h : Rdr W rb base ws bad) (hT : TxW W) (hrb : 9 ≤ rb) (hs : ∀ w ∈ ws, w.length ≤ 140737488355328) :
 Calls Tryz.prog 57 #[.pointer (some ⟨rb, 0, none⟩)] W fun e w' => e = .returned (.agg (evC (evF 6 ws))) ∧ Rdr w' rb base (evRest 6 ws) (bad || evB 6 ws) ∧ W.grownBy w' (some rb) := by
 have hbA : Below W.heap.size W (W.alloc (.cells #[.int .i64 0, .int .i64 0, .int .i64 0, .int .i64 0, .int .i64 0, .int .i64 0, .int .i64 0] 44)) := (Below.refl _ _).alloc (Nat.le_refl _) _
 have HB := Lib.hid h.lt
 have HNE := Lib.hid (show W.heap.size ≠ rb from by have := h.lt; omega)
 have HR0 := Lib.hid (h.below hbA)
 have HT0 := Lib.hid (hT.below hbA)
 have HG0 := Lib.hid (World.grownBy_alloc W (.cells #[.int .i64 0, .int .i64 0, .int .i64 0, .int .i64 0, .int .i64 0, .int .i64 0, .int .i64 0] 44) (some rb))
 have HZ0 := Lib.hid (show Zeros (W.alloc (.cells #[.int .i64 0, .int .i64 0, .int .i64 0, .int .i64 0, .int .i64 0, .int .i64 0, .int .i64 0] 44)) W.heap.size 7 from zeros7 W _)
 have HSZ := Lib.hid (show W.heap.size < (W.alloc (.cells #[.int .i64 0, .int .i64 0, .int .i64 0, .int .i64 0, .int .i64 0, .int .i64 0, .int .i64 0] 44)).heap.size from by simp)
 have HS := Lib.hid hs
 obtain ⟨v1, hv1⟩ : ∃ v, wordN (ws.headD []) = v := ⟨_, rfl⟩
 have HE := Lib.hid (show evF 6 ws = ⟨6, 0, v1, 0, 0, 0, 0⟩ from by unfold evF; simp only [hv1])
 have HV1 := Lib.hid hv1
 clear h hT hs hbA hv1
 rw [HE.out]
 unfold evC
 simp only
 go_enter Tryz.func57, Tryz.ntmps57
 have HC1 := Lib.hid (num_read rb base (ws) (bad) _ HR0.out HT0.out hrb (heads HS.out 0))
 rw [HV1.out] at HC1
 go_wp2_with fail
 refine HC1.out.mono ?_
 rintro e w1 ⟨rfl, hr1, hg1⟩
 have HR1 := Lib.hid hr1
 have HT1 := Lib.hid (HT0.out.grown hg1 hrb)
 have HG1 := Lib.hid (gb_trans HG0.out hg1)
 have HZ1 := Lib.hid (HZ0.out.kept hg1 HSZ.out HNE.out)
 have HSZ1 := Lib.hid (Nat.lt_of_lt_of_le HSZ.out hg1.size)
 clear hr1 hg1 HC1
 obtain ⟨⟨r0, z0⟩, ⟨r1, z1⟩, ⟨r2, z2⟩, ⟨r3, z3⟩, ⟨r4, z4⟩, ⟨r5, z5⟩, ⟨r6, z6⟩⟩ := zeros_7 HZ1.out
 obtain ⟨q0, q1, q2', q3, q4, q5, q6⟩ := set7 r0 r1 r2 r3 r4 r5 r6 (.int .i64 6) (.int .i64 0) (.int .i64 v1) (.int .i64 0) (.int .i64 0) (.int .i64 0) (.int .i64 0)
 go_wp2
 refine bodyPost_ret (by simp [results, Tryz.results57, go_sem, q0, q1, q2', q3, q4, q5, q6] <;> rfl) rfl ?_
 refine ⟨rfl, ?_, put7_gb HG1.out (Nat.le_refl _) (.int .i64 6) (.int .i64 0) (.int .i64 v1) (.int .i64 0) (.int .i64 0) (.int .i64 0) (.int .i64 0)⟩
 have HBE := Lib.hid (show (bad || evB 6 ws) = (bad || (numT (ws.headD [])).isNone) from by unfold evB; simp only [Bool.or_assoc])
 rw [HBE.out]
 exact HR1.out.below' (put7_below (w := w1) HB.out.2 (.int .i64 6) (.int .i64 0) (.int .i64 v1) (.int .i64 0) (.int .i64 0) (.int .i64 0) (.int .i64 0))
set_option maxRecDepth 100000 in
set_option maxHeartbeats 2000000 in
theorem ev7_read (rb base : Nat) (ws : List (List UInt8)) (bad : Bool) (W : World) (h : Rdr W rb base ws bad) (hT : TxW W) (hrb : 9 ≤ rb) (hs : ∀ w ∈ ws, w.length ≤ 140737488355328) :
 Calls Tryz.prog 58 #[.pointer (some ⟨rb, 0, none⟩)] W fun e w' => e = .returned (.agg (evC (evF 7 ws))) ∧ Rdr w' rb base (evRest 7 ws) (bad || evB 7 ws) ∧ W.grownBy w' (some rb) := by
 have hbA : Below W.heap.size W (W.alloc (.cells #[.int .i64 0, .int .i64 0, .int .i64 0, .int .i64 0, .int .i64 0, .int .i64 0, .int .i64 0] 44)) := (Below.refl _ _).alloc (Nat.le_refl _) _
 have HB := Lib.hid h.lt
 have HNE := Lib.hid (show W.heap.size ≠ rb from by have := h.lt; omega)
 have HR0 := Lib.hid (h.below hbA)
 have HT0 := Lib.hid (hT.below hbA)
 have HG0 := Lib.hid (World.grownBy_alloc W (.cells #[.int .i64 0, .int .i64 0, .int .i64 0, .int .i64 0, .int .i64 0, .int .i64 0, .int .i64 0] 44) (some rb))
 have HZ0 := Lib.hid (show Zeros (W.alloc (.cells #[.int .i64 0, .int .i64 0, .int .i64 0, .int .i64 0, .int .i64 0, .int .i64 0, .int .i64 0] 44)) W.heap.size 7 from zeros7 W _)
 have HSZ := Lib.hid (show W.heap.size < (W.alloc (.cells #[.int .i64 0, .int .i64 0, .int .i64 0, .int .i64 0, .int .i64 0, .int .i64 0, .int .i64 0] 44)).heap.size from by simp)
 have HS := Lib.hid hs
 obtain ⟨v1, hv1⟩ : ∃ v, wordN (ws.headD []) = v := ⟨_, rfl⟩
 obtain ⟨v2, hv2⟩ : ∃ v, wordN (ws.tail.headD []) = v := ⟨_, rfl⟩
 have HE := Lib.hid (show evF 7 ws = ⟨7, 0, v1, 0, 0, 0, v2⟩ from by unfold evF; simp only [hv1, hv2])
 have HV1 := Lib.hid hv1
 have HV2 := Lib.hid hv2
 clear h hT hs hbA hv1 hv2
 rw [HE.out]
 unfold evC
 simp only
 go_enter Tryz.func58, Tryz.ntmps58
 have HC1 := Lib.hid (num_read rb base (ws) (bad) _ HR0.out HT0.out hrb (heads HS.out 0))
 rw [HV1.out] at HC1
 go_wp2_with fail
 refine HC1.out.mono ?_
 rintro e w1 ⟨rfl, hr1, hg1⟩
 have HR1 := Lib.hid hr1
 have HT1 := Lib.hid (HT0.out.grown hg1 hrb)
 have HG1 := Lib.hid (gb_trans HG0.out hg1)
 have HZ1 := Lib.hid (HZ0.out.kept hg1 HSZ.out HNE.out)
 have HSZ1 := Lib.hid (Nat.lt_of_lt_of_le HSZ.out hg1.size)
 clear hr1 hg1 HC1
 have HC2 := Lib.hid (num_read rb base (ws.tail) (bad || (numT (ws.headD [])).isNone) _ HR1.out HT1.out hrb (heads HS.out 1))
 rw [HV2.out] at HC2
 go_wp2_with fail
 refine HC2.out.mono ?_
 rintro e w2 ⟨rfl, hr2, hg2⟩
 have HR2 := Lib.hid hr2
 have HT2 := Lib.hid (HT1.out.grown hg2 hrb)
 have HG2 := Lib.hid (gb_trans HG1.out hg2)
 have HZ2 := Lib.hid (HZ1.out.kept hg2 HSZ1.out HNE.out)
 have HSZ2 := Lib.hid (Nat.lt_of_lt_of_le HSZ1.out hg2.size)
 clear hr2 hg2 HC2
 obtain ⟨⟨r0, z0⟩, ⟨r1, z1⟩, ⟨r2, z2⟩, ⟨r3, z3⟩, ⟨r4, z4⟩, ⟨r5, z5⟩, ⟨r6, z6⟩⟩ := zeros_7 HZ2.out
 obtain ⟨q0, q1, q2', q3, q4, q5, q6⟩ := set7 r0 r1 r2 r3 r4 r5 r6 (.int .i64 7) (.int .i64 0) (.int .i64 v1) (.int .i64 0) (.int .i64 0) (.int .i64 0) (.int .i64 v2)
 go_wp2
 refine bodyPost_ret (by simp [results, Tryz.results58, go_sem, q0, q1, q2', q3, q4, q5, q6] <;> rfl) rfl ?_
 refine ⟨rfl, ?_, put7_gb HG2.out (Nat.le_refl _) (.int .i64 7) (.int .i64 0) (.int .i64 v1) (.int .i64 0) (.int .i64 0) (.int .i64 0) (.int .i64 v2)⟩
 have HBE := Lib.hid (show (bad || evB 7 ws) = (bad || (numT (ws.headD [])).isNone || (numT (ws.tail.headD [])).isNone) from by unfold evB; simp only [Bool.or_assoc])
 rw [HBE.out]
 exact HR2.out.below' (put7_below (w := w2) HB.out.2 (.int .i64 7) (.int .i64 0) (.int .i64 v1) (.int .i64 0) (.int .i64 0) (.int .i64 0) (.int .i64 v2))
set_option maxRecDepth 100000 in
set_option maxHeartbeats 2000000 in
theorem ev8_read (rb base : Nat) (ws : List (List UInt8)) (bad : Bool) (W : World) (h : Rdr W rb base ws bad) (hT : TxW W) (hrb : 9 ≤ rb) (hs : ∀ w ∈ ws, w.length ≤ 140737488355328) :
 Calls Tryz.prog 59 #[.pointer (some ⟨rb, 0, none⟩)] W fun e w' => e = .returned (.agg (evC (evF 8 ws))) ∧ Rdr w' rb base (evRest 8 ws) (bad || evB 8 ws) ∧ W.grownBy w' (some rb) := by
 have hbA : Below W.heap.size W (W.alloc (.cells #[.int .i64 0, .int .i64 0, .int .i64 0, .int .i64 0, .int .i64 0, .int .i64 0, .int .i64 0] 44)) := (Below.refl _ _).alloc (Nat.le_refl _) _
 have HB := Lib.hid h.lt
 have HNE := Lib.hid (show W.heap.size ≠ rb from by have := h.lt; omega)
 have HR0 := Lib.hid (h.below hbA)
 have HT0 := Lib.hid (hT.below hbA)
 have HG0 := Lib.hid (World.grownBy_alloc W (.cells #[.int .i64 0, .int .i64 0, .int .i64 0, .int .i64 0, .int .i64 0, .int .i64 0, .int .i64 0] 44) (some rb))
 have HZ0 := Lib.hid (show Zeros (W.alloc (.cells #[.int .i64 0, .int .i64 0, .int .i64 0, .int .i64 0, .int .i64 0, .int .i64 0, .int .i64 0] 44)) W.heap.size 7 from zeros7 W _)
 have HSZ := Lib.hid (show W.heap.size < (W.alloc (.cells #[.int .i64 0, .int .i64 0, .int .i64 0, .int .i64 0, .int .i64 0, .int .i64 0, .int .i64 0] 44)).heap.size from by simp)
 have HS := Lib.hid hs
 obtain ⟨v1, hv1⟩ : ∃ v, wordN (ws.headD []) = v := ⟨_, rfl⟩
 have HE := Lib.hid (show evF 8 ws = ⟨8, v1, 0, 0, 0, 0, 0⟩ from by unfold evF; simp only [hv1])
 have HV1 := Lib.hid hv1
 clear h hT hs hbA hv1
 rw [HE.out]
 unfold evC
 simp only
 go_enter Tryz.func59, Tryz.ntmps59
 have HC1 := Lib.hid (num_read rb base (ws) (bad) _ HR0.out HT0.out hrb (heads HS.out 0))
 rw [HV1.out] at HC1
 go_wp2_with fail
 refine HC1.out.mono ?_
 rintro e w1 ⟨rfl, hr1, hg1⟩
 have HR1 := Lib.hid hr1
 have HT1 := Lib.hid (HT0.out.grown hg1 hrb)
 have HG1 := Lib.hid (gb_trans HG0.out hg1)
 have HZ1 := Lib.hid (HZ0.out.kept hg1 HSZ.out HNE.out)
 have HSZ1 := Lib.hid (Nat.lt_of_lt_of_le HSZ.out hg1.size)
 clear hr1 hg1 HC1
 obtain ⟨⟨r0, z0⟩, ⟨r1, z1⟩, ⟨r2, z2⟩, ⟨r3, z3⟩, ⟨r4, z4⟩, ⟨r5, z5⟩, ⟨r6, z6⟩⟩ := zeros_7 HZ1.out
 obtain ⟨q0, q1, q2', q3, q4, q5, q6⟩ := set7 r0 r1 r2 r3 r4 r5 r6 (.int .i64 8) (.int .i64 v1) (.int .i64 0) (.int .i64 0) (.int .i64 0) (.int .i64 0) (.int .i64 0)
 go_wp2
 refine bodyPost_ret (by simp [results, Tryz.results59, go_sem, q0, q1, q2', q3, q4, q5, q6] <;> rfl) rfl ?_
 refine ⟨rfl, ?_, put7_gb HG1.out (Nat.le_refl _) (.int .i64 8) (.int .i64 v1) (.int .i64 0) (.int .i64 0) (.int .i64 0) (.int .i64 0) (.int .i64 0)⟩
 have HBE := Lib.hid (show (bad || evB 8 ws) = (bad || (numT (ws.headD [])).isNone) from by unfold evB; simp only [Bool.or_assoc])
 rw [HBE.out]
 exact HR1.out.below' (put7_below (w := w1) HB.out.2 (.int .i64 8) (.int .i64 v1) (.int .i64 0) (.int .i64 0) (.int .i64 0) (.int .i64 0) (.int .i64 0))
end Go.Proofs.YtjpjlfjaapfnkaaGreatDoor
namespace Go.Proofs.YtjpjlfjaapfnkaaGreatDoor
open C20 (Ev formB evC)
theorem num_nil : numT [] = none := by decide
theorem mode_nil : modeT [] = 0 := rfl
theorem evR_eq (k : Nat) (h1 : 1 ≤ k) (h8 : k ≤ 8) (r : List (List UInt8)) : evR k r = if evB k r = false ∧ evRest k r = [] ∧ formB (evF k r) = true then some (evF k r) else none := by
 have hk : k = 1 ∨ k = 2 ∨ k = 3 ∨ k = 4 ∨ k = 5 ∨ k = 6 ∨ k = 7 ∨ k = 8 := by omega
 match r with
 | [] => rcases hk with rfl | rfl | rfl | rfl | rfl | rfl | rfl | rfl <;> simp [evR, evB, num_nil]
 | [a] =>
  cases ha : numT a with
  | none => rcases hk with rfl | rfl | rfl | rfl | rfl | rfl | rfl | rfl <;> simp [evR, evB, num_nil, ha]
  | some x => rcases hk with rfl | rfl | rfl | rfl | rfl | rfl | rfl | rfl <;> simp [evR, evB, evF, evRest, wordN, evChk, num_nil, ha, parse_nil]
 | [a, b] =>
  cases ha : numT a with
  | none => rcases hk with rfl | rfl | rfl | rfl | rfl | rfl | rfl | rfl <;> simp [evR, evB, num_nil, ha]
  | some x =>
   cases hb : numT b with
   | none => rcases hk with rfl | rfl | rfl | rfl | rfl | rfl | rfl | rfl <;> simp [evR, evB, evF, evRest, wordN, evChk, num_nil, ha, hb, mode_nil]
   | some y => rcases hk with rfl | rfl | rfl | rfl | rfl | rfl | rfl | rfl <;> simp [evR, evB, evF, evRest, wordN, evChk, num_nil, ha, hb, mode_nil]
 | [a, b, c] =>
  cases ha : numT a with
  | none => rcases hk with rfl | rfl | rfl | rfl | rfl | rfl | rfl | rfl <;> simp [evR, evB, num_nil, ha]
  | some x =>
   cases hp : parseL b with
   | inr i => rcases hk with rfl | rfl | rfl | rfl | rfl | rfl | rfl | rfl <;> simp [evR, evB, evF, evRest, wordN, evChk, num_nil, ha, hp, resBad]
   | inl p =>
    obtain ⟨t, q⟩ := p
    cases hc : numT c with
    | none => rcases hk with rfl | rfl | rfl | rfl | rfl | rfl | rfl | rfl <;> (simp [evR, evB, evF, evRest, wordN, evChk, num_nil, ha, hp, hc, resBad, resR] <;> (by_cases hm : modeT c = 0 <;> simp [hm]))
    | some y => rcases hk with rfl | rfl | rfl | rfl | rfl | rfl | rfl | rfl <;> (simp [evR, evB, evF, evRest, wordN, evChk, num_nil, ha, hp, hc, resBad, resR] <;> (by_cases hm : modeT c = 0 <;> simp [hm]))
 | a :: b :: c :: d :: t => rcases hk with rfl | rfl | rfl | rfl | rfl | rfl | rfl | rfl <;> simp [evR, evB, evRest]
theorem evP_sp {L : List UInt8} {w0 : List UInt8} {r : List (List UInt8)} (h : spL 32 L = w0 :: r) : evP L = if evNo w0 = 0 then none else if evB (evNo w0) r = false ∧ evRest (evNo w0) r = [] ∧ formB (evF (evNo w0) r) = true then some (evF (evNo w0) r) else none := by
 unfold evP
 rw [h]
 simp only
 by_cases h0 : evNo w0 = 0
 ·rw [if_pos h0, if_pos h0]
 ·have := evNo_is h0
  rw [if_neg h0, if_neg h0, evR_eq _ this.2.1 this.2.2]
end Go.Proofs.YtjpjlfjaapfnkaaGreatDoor

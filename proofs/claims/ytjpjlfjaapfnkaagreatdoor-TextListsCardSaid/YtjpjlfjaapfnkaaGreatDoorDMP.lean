/-
  text.ParseEvent. No conditions beyond those that each theorem states.
-/
import Derived.Test.YtjpjlfjaapfnkaaGreatDoorDML
import Derived.Test.YtjpjlfjaapfnkaaGreatDoorDMF
set_option linter.unusedVariables false
set_option linter.unusedSimpArgs false
namespace Go.Proofs.YtjpjlfjaapfnkaaGreatDoor
open Go.ChangeShapes Go.WideShapes Go.ChangeAt Go.RowKit
open C20 (Ev formB evC)
theorem ev_call (k : Nat) (h1 : 1 ≤ k) (h8 : k ≤ 8) (rb base : Nat) (ws : List (List UInt8)) (bad : Bool) (W : World) (h : Rdr W rb base ws bad) (hT : TxW W) (hrb : 9 ≤ rb) (hs : ∀ w ∈ ws, w.length ≤ 140737488355328) :
 Calls Tryz.prog (evFn k) #[.pointer (some ⟨rb, 0, none⟩)] W fun e w' => e = .returned (.agg (evC (evF k ws))) ∧ Rdr w' rb base (evRest k ws) (bad || evB k ws) ∧ W.grownBy w' (some rb) := by
 have hk : k = 1 ∨ k = 2 ∨ k = 3 ∨ k = 4 ∨ k = 5 ∨ k = 6 ∨ k = 7 ∨ k = 8 := by omega
 rcases hk with rfl | rfl | rfl | rfl | rfl | rfl | rfl | rfl
 ·exact ev1_read rb base ws bad W h hT hrb hs
 ·exact ev2_read rb base ws bad W h hT hrb hs
 ·exact ev3_read rb base ws bad W h hT hrb hs
 ·exact ev4_read rb base ws bad W h hT hrb hs
 ·exact ev5_read rb base ws bad W h hT hrb hs
 ·exact ev6_read rb base ws bad W h hT hrb hs
 ·exact ev7_read rb base ws bad W h hT hrb hs
 ·exact ev8_read rb base ws bad W h hT hrb hs
theorem ev_enters (k : Nat) : ∀ args W, (callFunc (evFn k) args).run Tryz.prog W = .ok (.enter (evFn k) args) W := by
 have h1 := enters_of Tryz.func52 (by kernel_rfl) rfl
 have h2 := enters_of Tryz.func53 (by kernel_rfl) rfl
 have h3 := enters_of Tryz.func54 (by kernel_rfl) rfl
 have h4 := enters_of Tryz.func55 (by kernel_rfl) rfl
 have h5 := enters_of Tryz.func56 (by kernel_rfl) rfl
 have h6 := enters_of Tryz.func57 (by kernel_rfl) rfl
 have h7 := enters_of Tryz.func58 (by kernel_rfl) rfl
 have h8 := enters_of Tryz.func59 (by kernel_rfl) rfl
 unfold evFn
 split
 ·exact h1
 ·exact h2
 ·exact h3
 ·exact h4
 ·exact h5
 ·exact h6
 ·exact h7
 ·exact h8
def EvIs (e : Ending) : Option Ev → Prop
 | some x => e = .returned (.tuple #[.agg (evC x), .nilIface])
 | none => e = .returned (.tuple #[.agg #[.int .i64 0, .int .i64 0, .int .i64 0, .int .i64 0, .int .i64 0, .int .i64 0, .int .i64 0], .iface 70 (.int .i64 5)])
theorem Zeros.below {a b : World} {B n : Nat} (h : Zeros a B n) (hb : Below a.heap.size a b) (hB : B < a.heap.size) : Zeros b B n := fun o ho =>
 ⟨(hb.cell (p := ⟨B, o, none⟩) hB).trans (h o ho).1, (hb.frozen (p := ⟨B, o, none⟩) hB).trans (h o ho).2⟩
def readW (W : World) (ws : List (List UInt8)) : World :=
 (((W.alloc (.cells #[.int .i64 0, .int .i64 0, .int .i64 0, .int .i64 0, .int .i64 0, .int .i64 0, .int .i64 0] 44)).alloc (.cells #[.int .i64 0, .int .i64 0, .int .i64 0, .int .i64 0, .int .i64 0, .int .i64 0, .int .i64 0] 44)).alloc (.cells (strs ws) 9)).alloc (.cells #[.slice (some ⟨W.heap.size + 1 + 1, 0, none⟩) ws.length ws.length, .bool false] 115)
theorem read_below (W : World) (ws : List (List UInt8)) : Below W.heap.size W (readW W ws) := by unfold readW; go_grown
theorem read_size (W : World) (ws : List (List UInt8)) : (readW W ws).heap.size = W.heap.size + 1 + 1 + 1 + 1 := by unfold readW; simp
theorem read_z0 (W : World) (ws : List (List UInt8)) : Zeros (readW W ws) W.heap.size 7 := by
 have hb : Below (W.heap.size + 1) (W.alloc (.cells #[.int .i64 0, .int .i64 0, .int .i64 0, .int .i64 0, .int .i64 0, .int .i64 0, .int .i64 0] 44)) (readW W ws) := by
  unfold readW
  exact (((Below.refl _ _).alloc (by simp) _).alloc (by simp) _).alloc (by simp) _
 intro o ho
 have h := zeros7 W 44 o ho
 exact ⟨(hb.cell (p := ⟨W.heap.size, o, none⟩) (Nat.lt_succ_self _)).trans h.1, (hb.frozen (p := ⟨W.heap.size, o, none⟩) (Nat.lt_succ_self _)).trans h.2⟩
theorem read_z1 (W : World) (ws : List (List UInt8)) : Zeros (readW W ws) (W.heap.size + 1) 7 := by
 have hb : Below (W.heap.size + 1 + 1) ((W.alloc (.cells #[.int .i64 0, .int .i64 0, .int .i64 0, .int .i64 0, .int .i64 0, .int .i64 0, .int .i64 0] 44)).alloc (.cells #[.int .i64 0, .int .i64 0, .int .i64 0, .int .i64 0, .int .i64 0, .int .i64 0, .int .i64 0] 44)) (readW W ws) := by
  unfold readW
  exact ((Below.refl _ _).alloc (by simp) _).alloc (by simp) _
 intro o ho
 have h := zeros7 (W.alloc (.cells #[.int .i64 0, .int .i64 0, .int .i64 0, .int .i64 0, .int .i64 0, .int .i64 0, .int .i64 0] 44)) 44 o ho
 rw [show (W.alloc (.cells #[.int .i64 0, .int .i64 0, .int .i64 0, .int .i64 0, .int .i64 0, .int .i64 0, .int .i64 0] 44)).heap.size = W.heap.size + 1 from by simp] at h
 exact ⟨(hb.cell (p := ⟨W.heap.size + 1, o, none⟩) (Nat.lt_succ_self _)).trans h.1, (hb.frozen (p := ⟨W.heap.size + 1, o, none⟩) (Nat.lt_succ_self _)).trans h.2⟩
theorem read_rdr (W : World) (ws : List (List UInt8)) : Rdr (readW W ws) (W.heap.size + 1 + 1 + 1) (W.heap.size + 1 + 1 + 1 + 1) ws false := by
 obtain ⟨X, hX⟩ : ∃ X, (W.alloc (.cells #[.int .i64 0, .int .i64 0, .int .i64 0, .int .i64 0, .int .i64 0, .int .i64 0, .int .i64 0] 44)).alloc (.cells #[.int .i64 0, .int .i64 0, .int .i64 0, .int .i64 0, .int .i64 0, .int .i64 0, .int .i64 0] 44) = X := ⟨_, rfl⟩
 have hs : X.heap.size = W.heap.size + 1 + 1 := by rw [← hX]; simp
 unfold readW
 rw [hX, ← hs]
 obtain ⟨g, off, hA, hc⟩ := rds_block (W := X.alloc (.cells (strs ws) 9)) (g := X.heap.size) (T := 9) (fr := (0, 0)) (ws := ws) (by rw [heap_push, if_pos rfl])
 have hz : (X.alloc (.cells (strs ws) 9)).heap.size = X.heap.size + 1 := by simp
 refine ⟨_, ws.length, X.heap.size, 0, ?_, ?_, ?_, ?_, Nat.le_refl _, by omega, ⟨by omega, by omega, by simp⟩, fun _ => rfl, fun i hi => ?_⟩
 ·rw [← hz]; simp
 ·rw [← hz]; simp
 ·rw [← hz]; simp
 ·rw [← hz]; simp
 ·obtain ⟨ha, hg⟩ := hA (by omega)
  simp only [Option.some.injEq, Addr.mk.injEq, and_true] at ha
  obtain ⟨rfl, rfl⟩ := ha
  have := hc i hi
  rw [World.cell?_alloc_lt _ _ _ (by simp)]
  exact this
set_option maxRecDepth 100000 in
set_option maxHeartbeats 4000000 in
theorem read_ev (s : ByteArray) (mb : Nat) (W : World) (hT : TxW W) (hown : W.ownsMap Tryz.prog 9 fnElem mb 8 (evMapD 8)) (hs : s.size < 4294967281) (hG : 9 ≤ W.heap.size) :
 Calls Tryz.prog 60 #[.string s, .map (some mb), .func (.func 49) #[] #[]] W fun e w' => EvIs e (evP s.data.toList) ∧ Below W.heap.size W w' := by
 have hmb := hown.lt
 have hb0 : Below W.heap.size W (W.alloc (.cells #[.int .i64 0, .int .i64 0, .int .i64 0, .int .i64 0, .int .i64 0, .int .i64 0, .int .i64 0] 44)) := (Below.refl _ _).alloc (Nat.le_refl _) _
 have hb1 := hb0.alloc hb0.size (.cells #[.int .i64 0, .int .i64 0, .int .i64 0, .int .i64 0, .int .i64 0, .int .i64 0, .int .i64 0] 44)
 have HSP := Lib.hid (split_any s 32 _ (hT.below hb1) hs)
 obtain ⟨w0, r, hws⟩ : ∃ w0 r, spL 32 s.data.toList = w0 :: r := by
  cases h : spL 32 s.data.toList with
  | nil => exact absurd h (sp_ne _ _)
  | cons a b => exact ⟨a, b, rfl⟩
 have hwl : ∀ w ∈ spL 32 s.data.toList, w.length ≤ 140737488355328 := fun w hw => by
  have := sp_word 32 s.data.toList w hw
  have hsz : s.data.toList.length = s.size := rfl
  omega
 have hp := evP_sp hws
 rw [hws] at HSP hwl
 have HP := Lib.hid hp
 have HWL := Lib.hid hwl
 have HNX := Lib.hid (next_any _ _ (w0 :: r) false _ (read_rdr W (w0 :: r)))
 have HB3 := Lib.hid (read_below W (w0 :: r))
 have HZ0 := Lib.hid (read_z0 W (w0 :: r))
 have HZ1 := Lib.hid (read_z1 W (w0 :: r))
 have HS3 := Lib.hid (read_size W (w0 :: r))
 have HT3 := Lib.hid (hT.below HB3.out)
 have HOW := Lib.hid (hown.kept (gb_below (r := none) HB3.out) (by simp))
 have HMB := Lib.hid hmb
 unfold readW at HNX
 clear hws hwl hp hT hown hb0 hb1 hmb
 simp only [List.headD_cons, List.tail_cons, List.isEmpty_cons, Bool.or_false] at HNX
 go_enter Tryz.func60, Tryz.ntmps60
 go_wp2_with fail
 refine HSP.out.mono ?_
 rintro e w' ⟨rfl, rfl⟩
 go_wp2_with fail
 refine HNX.out.mono ?_
 rintro e w4 ⟨rfl, hr4, hg4⟩
 have hg4' : (readW W (w0 :: r)).grownBy w4 (some (W.heap.size + 1 + 1 + 1)) := hg4
 have HR4 := Lib.hid hr4
 have HT4 := Lib.hid (HT3.out.grown hg4' (by omega))
 have HZ40 := Lib.hid (HZ0.out.kept hg4' (by rw [HS3.out]; omega) (by omega))
 have HZ41 := Lib.hid (HZ1.out.kept hg4' (by rw [HS3.out]; omega) (by omega))
 have hm4 := HOW.out.kept hg4' (by simp; have := HMB.out; omega)
 have HB4 := Lib.hid (HB3.out.grown hg4' HB3.out.size (fun k hk => by cases hk; omega))
 have HS4 := Lib.hid (show W.heap.size + 1 + 1 + 1 + 1 ≤ w4.heap.size from by rw [← HS3.out]; exact hg4'.size)
 obtain ⟨l1, l0⟩ := ev_look hm4 (HWL.out w0 List.mem_cons_self)
 have HL1 := Lib.hid l1
 have HL0 := Lib.hid l0
 clear hr4 hg4 hg4' hm4 l1 l0 HNX HSP HZ0 HZ1 HT3 HOW
 by_cases h0 : evNo w0 = 0
 ·obtain ⟨v, hrun⟩ := HL0.out h0
  have HPN := Lib.hid (HP.out.trans (if_pos h0))
  clear h0 HL1 HL0
  obtain ⟨⟨r0, z0⟩, ⟨r1, z1⟩, ⟨r2, z2⟩, ⟨r3, z3⟩, ⟨r4, z4⟩, ⟨r5, z5⟩, ⟨r6, z6⟩⟩ := zeros_7 HZ40.out
  obtain ⟨⟨s0, _⟩, ⟨s1, _⟩, ⟨s2, _⟩, ⟨s3, _⟩, ⟨s4, _⟩, ⟨s5, _⟩, ⟨s6, _⟩⟩ := zeros_7 HZ41.out
  obtain ⟨q0, q1, q2, q3, q4, q5, q6⟩ := set7 r0 r1 r2 r3 r4 r5 r6 (.int .i64 0) (.int .i64 0) (.int .i64 0) (.int .i64 0) (.int .i64 0) (.int .i64 0) (.int .i64 0)
  go_wp2
  refine bodyPost_ret (by simp [results, Tryz.results60, go_sem, q0, q1, q2, q3, q4, q5, q6] <;> rfl) rfl ?_
  rw [HPN.out]
  exact ⟨rfl, (HB4.out).trans ((put7_below (w := w4) (Nat.le_refl W.heap.size) (.int .i64 0) (.int .i64 0) (.int .i64 0) (.int .i64 0) (.int .i64 0) (.int .i64 0) (.int .i64 0)))⟩
 ·have hk := evNo_is h0
  have hrun := HL1.out (by omega)
  have HPN := Lib.hid (HP.out.trans (if_neg h0))
  have HCL := Lib.hid (ev_call (evNo w0) hk.2.1 hk.2.2 _ _ r false w4 HR4.out HT4.out (by omega) (fun w hw => HWL.out w (List.mem_cons_of_mem _ hw)))
  have hent := ev_enters (evNo w0)
  obtain ⟨f, hf⟩ : ∃ f, evFn (evNo w0) = f := ⟨_, rfl⟩
  rw [hf] at hrun HCL hent
  clear hf
  obtain ⟨E, hE⟩ : ∃ E, evF (evNo w0) r = E := ⟨_, rfl⟩
  obtain ⟨b5, hb5⟩ : ∃ b, evB (evNo w0) r = b := ⟨_, rfl⟩
  obtain ⟨rest, hre⟩ : ∃ b, evRest (evNo w0) r = b := ⟨_, rfl⟩
  rw [hE, hb5, hre] at HPN
  rw [hE, hb5, hre] at HCL
  rw [Bool.false_or] at HCL
  clear hk h0 HL1 HL0 HP hE hb5 hre
  obtain ⟨ek, ec, ex, et, er, em, eq⟩ := E
  unfold evC at HCL
  simp only at HCL
  go_wp2_with fail
  refine HCL.out.mono ?_
  rintro e w5 ⟨rfl, hr5, hg5⟩
  have hb5 : Below w5.heap.size w5 (w5.alloc (.cells #[.int .i64 ek, .int .i64 ec, .int .i64 ex, .int .i64 et, .int .i64 er, .int .i64 em, .int .i64 eq] 44)) := (Below.refl _ _).alloc (Nat.le_refl _) _
  have HS5 := Lib.hid (show W.heap.size + 1 + 1 + 1 + 1 ≤ w5.heap.size from Nat.le_trans HS4.out hg5.size)
  have HZ50 := Lib.hid ((HZ40.out.kept hg5 (by have := HS4.out; omega) (by omega)).below hb5 (by have := HS5.out; omega))
  have HZ51 := Lib.hid ((HZ41.out.kept hg5 (by have := HS4.out; omega) (by omega)).below hb5 (by have := HS5.out; omega))
  have HB5 := Lib.hid ((HB4.out.grown hg5 HB4.out.size (fun k hk => by cases hk; omega)).trans (hb5.mono (by have := HS5.out; omega)))
  have HR5 := Lib.hid (hr5.below hb5)
  obtain ⟨A5, c5, _, _, c0, c1, _⟩ := id HR5.out
  clear hr5 hg5 hrun HCL HZ40 HZ41 HB4 HR4 HT4
  cases b5 with
  | true =>
   have HPF := Lib.hid (HPN.out.trans (if_neg (by simp)))
   obtain ⟨⟨r0, z0⟩, ⟨r1, z1⟩, ⟨r2, z2⟩, ⟨r3, z3⟩, ⟨r4, z4⟩, ⟨r5, z5⟩, ⟨r6, z6⟩⟩ := zeros_7 HZ50.out
   obtain ⟨⟨s0, _⟩, ⟨s1, _⟩, ⟨s2, _⟩, ⟨s3, _⟩, ⟨s4, _⟩, ⟨s5, _⟩, ⟨s6, _⟩⟩ := zeros_7 HZ51.out
   obtain ⟨q0, q1, q2, q3, q4, q5, q6⟩ := set7 r0 r1 r2 r3 r4 r5 r6 (.int .i64 0) (.int .i64 0) (.int .i64 0) (.int .i64 0) (.int .i64 0) (.int .i64 0) (.int .i64 0)
   go_wp2
   refine bodyPost_ret (by simp [results, Tryz.results60, go_sem, q0, q1, q2, q3, q4, q5, q6] <;> rfl) rfl ?_
   rw [HPF.out]
   exact ⟨rfl, (HB5.out).trans ((put7_below (w := _) (Nat.le_refl W.heap.size) (.int .i64 0) (.int .i64 0) (.int .i64 0) (.int .i64 0) (.int .i64 0) (.int .i64 0) (.int .i64 0)))⟩
  | false =>
   by_cases hn : rest = []
   ·subst hn
    have c0 : (w5.alloc (.cells #[.int .i64 ek, .int .i64 ec, .int .i64 ex, .int .i64 et, .int .i64 er, .int .i64 em, .int .i64 eq] 44)).cell? ⟨W.heap.size + 1 + 1 + 1, 0, none⟩ = some (.slice A5 0 c5) := c0
    have HF := Lib.hid (form_any ⟨ek, ec, ex, et, er, em, eq⟩ (w5.alloc (.cells #[.int .i64 ek, .int .i64 ec, .int .i64 ex, .int .i64 et, .int .i64 er, .int .i64 em, .int .i64 eq] 44)))
    unfold evC at HF
    simp only at HF
    cases hf : formB ⟨ek, ec, ex, et, er, em, eq⟩ with
    | false =>
     rw [hf] at HF
     have HPF := Lib.hid (HPN.out.trans (if_neg (fun q => by rw [hf] at q; cases q.2.2)))
     clear hf
     go_wp2_with fail
     refine HF.out.mono ?_
     rintro e w6 ⟨rfl, hb6⟩
     have HZ60 := Lib.hid (HZ50.out.below hb6 (by have := HS5.out; simp; omega))
     have HZ61 := Lib.hid (HZ51.out.below hb6 (by have := HS5.out; simp; omega))
     have HB6 := Lib.hid (HB5.out.trans (hb6.mono HB5.out.size))
     clear hb6
     obtain ⟨⟨r0, z0⟩, ⟨r1, z1⟩, ⟨r2, z2⟩, ⟨r3, z3⟩, ⟨r4, z4⟩, ⟨r5, z5⟩, ⟨r6, z6⟩⟩ := zeros_7 HZ60.out
     obtain ⟨⟨s0, _⟩, ⟨s1, _⟩, ⟨s2, _⟩, ⟨s3, _⟩, ⟨s4, _⟩, ⟨s5, _⟩, ⟨s6, _⟩⟩ := zeros_7 HZ61.out
     obtain ⟨q0, q1, q2, q3, q4, q5, q6⟩ := set7 r0 r1 r2 r3 r4 r5 r6 (.int .i64 0) (.int .i64 0) (.int .i64 0) (.int .i64 0) (.int .i64 0) (.int .i64 0) (.int .i64 0)
     go_wp2
     refine bodyPost_ret (by simp [results, Tryz.results60, go_sem, q0, q1, q2, q3, q4, q5, q6] <;> rfl) rfl ?_
     rw [HPF.out]
     exact ⟨rfl, (HB6.out).trans ((put7_below (w := w6) (Nat.le_refl W.heap.size) (.int .i64 0) (.int .i64 0) (.int .i64 0) (.int .i64 0) (.int .i64 0) (.int .i64 0) (.int .i64 0)))⟩
    | true =>
     rw [hf] at HF
     have HPT := Lib.hid (HPN.out.trans (if_pos ⟨rfl, rfl, hf⟩))
     have x0 : (w5.alloc (.cells #[.int .i64 ek, .int .i64 ec, .int .i64 ex, .int .i64 et, .int .i64 er, .int .i64 em, .int .i64 eq] 44)).cell? ⟨w5.heap.size, 0, none⟩ = some (.int .i64 ek) := by simp
     have x1 : (w5.alloc (.cells #[.int .i64 ek, .int .i64 ec, .int .i64 ex, .int .i64 et, .int .i64 er, .int .i64 em, .int .i64 eq] 44)).cell? ⟨w5.heap.size, 1, none⟩ = some (.int .i64 ec) := by simp
     have x2 : (w5.alloc (.cells #[.int .i64 ek, .int .i64 ec, .int .i64 ex, .int .i64 et, .int .i64 er, .int .i64 em, .int .i64 eq] 44)).cell? ⟨w5.heap.size, 2, none⟩ = some (.int .i64 ex) := by simp
     have x3 : (w5.alloc (.cells #[.int .i64 ek, .int .i64 ec, .int .i64 ex, .int .i64 et, .int .i64 er, .int .i64 em, .int .i64 eq] 44)).cell? ⟨w5.heap.size, 3, none⟩ = some (.int .i64 et) := by simp
     have x4 : (w5.alloc (.cells #[.int .i64 ek, .int .i64 ec, .int .i64 ex, .int .i64 et, .int .i64 er, .int .i64 em, .int .i64 eq] 44)).cell? ⟨w5.heap.size, 4, none⟩ = some (.int .i64 er) := by simp
     have x5 : (w5.alloc (.cells #[.int .i64 ek, .int .i64 ec, .int .i64 ex, .int .i64 et, .int .i64 er, .int .i64 em, .int .i64 eq] 44)).cell? ⟨w5.heap.size, 5, none⟩ = some (.int .i64 em) := by simp
     have x6 : (w5.alloc (.cells #[.int .i64 ek, .int .i64 ec, .int .i64 ex, .int .i64 et, .int .i64 er, .int .i64 em, .int .i64 eq] 44)).cell? ⟨w5.heap.size, 6, none⟩ = some (.int .i64 eq) := by simp
     have HX := Lib.hid (And.intro x0 (And.intro x1 (And.intro x2 (And.intro x3 (And.intro x4 (And.intro x5 x6))))))
     clear hf x0 x1 x2 x3 x4 x5 x6
     go_wp2_with fail
     refine HF.out.mono ?_
     rintro e w6 ⟨rfl, hb6⟩
     have HZ60 := Lib.hid (HZ50.out.below hb6 (by have := HS5.out; simp; omega))
     have HB6 := Lib.hid (HB5.out.trans (hb6.mono HB5.out.size))
     obtain ⟨x0, x1, x2, x3, x4, x5, x6⟩ := HX.out
     have x0 := cell_keep hb6 x0
     have x1 := cell_keep hb6 x1
     have x2 := cell_keep hb6 x2
     have x3 := cell_keep hb6 x3
     have x4 := cell_keep hb6 x4
     have x5 := cell_keep hb6 x5
     have x6 := cell_keep hb6 x6
     obtain ⟨⟨r0, z0⟩, ⟨r1, z1⟩, ⟨r2, z2⟩, ⟨r3, z3⟩, ⟨r4, z4⟩, ⟨r5, z5⟩, ⟨r6, z6⟩⟩ := zeros_7 HZ60.out
     obtain ⟨q0, q1, q2, q3, q4, q5, q6⟩ := set7 r0 r1 r2 r3 r4 r5 r6 (.int .i64 ek) (.int .i64 ec) (.int .i64 ex) (.int .i64 et) (.int .i64 er) (.int .i64 em) (.int .i64 eq)
     clear hb6
     go_wp2
     refine bodyPost_ret (by simp [results, Tryz.results60, go_sem, q0, q1, q2, q3, q4, q5, q6] <;> rfl) rfl ?_
     rw [HPT.out]
     exact ⟨rfl, HB6.out.trans ((put7_below (w := w6) (Nat.le_refl W.heap.size) (.int .i64 ek) (.int .i64 ec) (.int .i64 ex) (.int .i64 et) (.int .i64 er) (.int .i64 em) (.int .i64 eq)))⟩
   ·have HPF := Lib.hid (HPN.out.trans (if_neg (fun q => hn q.2.1)))
    obtain ⟨m, hm⟩ : ∃ m, rest.length = m + 1 := ⟨rest.length - 1, by
     have : 0 < rest.length := List.length_pos_iff.2 hn
     omega⟩
    rw [hm] at c0
    have hm0 : (0 : Int) < ((m + 1 : Nat) : Int) := by omega
    clear hn hm
    obtain ⟨⟨r0, z0⟩, ⟨r1, z1⟩, ⟨r2, z2⟩, ⟨r3, z3⟩, ⟨r4, z4⟩, ⟨r5, z5⟩, ⟨r6, z6⟩⟩ := zeros_7 HZ50.out
    obtain ⟨⟨s0, _⟩, ⟨s1, _⟩, ⟨s2, _⟩, ⟨s3, _⟩, ⟨s4, _⟩, ⟨s5, _⟩, ⟨s6, _⟩⟩ := zeros_7 HZ51.out
    obtain ⟨q0, q1, q2, q3, q4, q5, q6⟩ := set7 r0 r1 r2 r3 r4 r5 r6 (.int .i64 0) (.int .i64 0) (.int .i64 0) (.int .i64 0) (.int .i64 0) (.int .i64 0) (.int .i64 0)
    go_wp2
    refine bodyPost_ret (by simp [results, Tryz.results60, go_sem, q0, q1, q2, q3, q4, q5, q6] <;> rfl) rfl ?_
    rw [HPF.out]
    exact ⟨rfl, (HB5.out).trans ((put7_below (w := _) (Nat.le_refl W.heap.size) (.int .i64 0) (.int .i64 0) (.int .i64 0) (.int .i64 0) (.int .i64 0) (.int .i64 0) (.int .i64 0)))⟩
end Go.Proofs.YtjpjlfjaapfnkaaGreatDoor
namespace Go.Proofs.YtjpjlfjaapfnkaaGreatDoor
open Go.ChangeShapes Go.WideShapes Go.ChangeAt Go.RowKit Go.Maps
open C20 (Ev formB evC)
set_option maxRecDepth 100000 in
set_option maxHeartbeats 4000000 in
theorem parse_event (s : ByteArray) (W : World) (hT : TxW W) (hs : s.size < 4294967281) (hG : 9 ≤ W.heap.size) :
 Calls Tryz.prog 18 #[.string s] W fun e w' => EvIs e (evP s.data.toList) ∧ Below W.heap.size W w' := by
 have hmk : ∀ X, (Instr.makeMap 94 none).run Tryz.prog X = .ok (.map (some X.heap.size)) (X.alloc (.map #[] 0)) := fun X => rfl
 have hb0 : Below W.heap.size W ((W.alloc (.cells #[.int .i64 0, .int .i64 0, .int .i64 0, .int .i64 0, .int .i64 0, .int .i64 0, .int .i64 0] 44)).alloc (.map #[] 0)) := ((Below.refl _ _).alloc (Nat.le_refl _) _).alloc (by simp) _
 have hz : (W.alloc (.cells #[.int .i64 0, .int .i64 0, .int .i64 0, .int .i64 0, .int .i64 0, .int .i64 0, .int .i64 0] 44)).heap.size = W.heap.size + 1 := by simp
 have ho0 : ((W.alloc (.cells #[.int .i64 0, .int .i64 0, .int .i64 0, .int .i64 0, .int .i64 0, .int .i64 0, .int .i64 0] 44)).alloc (.map #[] 0)).ownsMap Tryz.prog 9 fnElem (W.heap.size + 1) 0 (evMapD 0) := by
  have := World.ownsMap_made (W.alloc (.cells #[.int .i64 0, .int .i64 0, .int .i64 0, .int .i64 0, .int .i64 0, .int .i64 0, .int .i64 0] 44)) Tryz.prog 9 fnElem
  rw [hz] at this
  exact this
 have HO0 := Lib.hid ho0
 have HB0 := Lib.hid hb0
 have HS0 := Lib.hid (show W.heap.size < ((W.alloc (.cells #[.int .i64 0, .int .i64 0, .int .i64 0, .int .i64 0, .int .i64 0, .int .i64 0, .int .i64 0] 44)).alloc (.map #[] 0)).heap.size from by simp; omega)
 have HZ0 := Lib.hid ((zeros7 W 44).below (b := (W.alloc (.cells #[.int .i64 0, .int .i64 0, .int .i64 0, .int .i64 0, .int .i64 0, .int .i64 0, .int .i64 0] 44)).alloc (.map #[] 0)) ((Below.refl _ _).alloc (Nat.le_refl _) _) (by simp))
 have HTW := Lib.hid hT
 clear ho0 hb0 hz hT
 go_enter Tryz.func18, Tryz.ntmps18
 go_wp2_with (first | (refine wpList_insert_own _ rfl (.tmp 5) (.const (.string ⟨#[98, 101, 103, 97, 110]⟩)) (.func 52) 94 rfl 9 93 strK Tryz.underlying94 fnElem (W.heap.size + 1) 0 (evMapD 0) rfl HO0.out (by unfold maxLen; omega) _ _ (.string (evName 1)) rfl rfl (keyOf_str (s := ⟨#[98, 101, 103, 97, 110]⟩) (by decide)) (.lit (.int .i64 (evFn 1 : Nat))) [] rfl ?_; intro w1 hown1 hgr1; have HO1 : Hid (w1.ownsMap Tryz.prog 9 fnElem (W.heap.size + 1) 1 (evMapD 1)) := Lib.hid hown1; have HZ1 := Lib.hid (HZ0.out.kept hgr1 HS0.out (by omega)); have HS1 := Lib.hid (Nat.lt_of_lt_of_le HS0.out hgr1.size); have HB1 := Lib.hid (HB0.out.grown hgr1 HB0.out.size (fun q hq => by cases hq; omega)); clear hown1 hgr1 HO0 HZ0 HS0 HB0) | (refine wpList_insert_own _ rfl (.tmp 5) (.const (.string ⟨#[97, 115, 107, 101, 100]⟩)) (.func 53) 94 rfl 9 93 strK Tryz.underlying94 fnElem (W.heap.size + 1) 1 (evMapD 1) rfl HO1.out (by unfold maxLen; omega) _ _ (.string (evName 2)) rfl rfl (keyOf_str (s := ⟨#[97, 115, 107, 101, 100]⟩) (by decide)) (.lit (.int .i64 (evFn 2 : Nat))) [] rfl ?_; intro w2 hown2 hgr2; have HO2 : Hid (w2.ownsMap Tryz.prog 9 fnElem (W.heap.size + 1) 2 (evMapD 2)) := Lib.hid hown2; have HZ2 := Lib.hid (HZ1.out.kept hgr2 HS1.out (by omega)); have HS2 := Lib.hid (Nat.lt_of_lt_of_le HS1.out hgr2.size); have HB2 := Lib.hid (HB1.out.grown hgr2 HB1.out.size (fun q hq => by cases hq; omega)); clear hown2 hgr2 HO1 HZ1 HS1 HB1) | (refine wpList_insert_own _ rfl (.tmp 5) (.const (.string ⟨#[103, 114, 97, 110, 116, 101, 100]⟩)) (.func 54) 94 rfl 9 93 strK Tryz.underlying94 fnElem (W.heap.size + 1) 2 (evMapD 2) rfl HO2.out (by unfold maxLen; omega) _ _ (.string (evName 3)) rfl rfl (keyOf_str (s := ⟨#[103, 114, 97, 110, 116, 101, 100]⟩) (by decide)) (.lit (.int .i64 (evFn 3 : Nat))) [] rfl ?_; intro w3 hown3 hgr3; have HO3 : Hid (w3.ownsMap Tryz.prog 9 fnElem (W.heap.size + 1) 3 (evMapD 3)) := Lib.hid hown3; have HZ3 := Lib.hid (HZ2.out.kept hgr3 HS2.out (by omega)); have HS3 := Lib.hid (Nat.lt_of_lt_of_le HS2.out hgr3.size); have HB3 := Lib.hid (HB2.out.grown hgr3 HB2.out.size (fun q hq => by cases hq; omega)); clear hown3 hgr3 HO2 HZ2 HS2 HB2) | (refine wpList_insert_own _ rfl (.tmp 5) (.const (.string ⟨#[114, 101, 102, 117, 115, 101, 100]⟩)) (.func 55) 94 rfl 9 93 strK Tryz.underlying94 fnElem (W.heap.size + 1) 3 (evMapD 3) rfl HO3.out (by unfold maxLen; omega) _ _ (.string (evName 4)) rfl rfl (keyOf_str (s := ⟨#[114, 101, 102, 117, 115, 101, 100]⟩) (by decide)) (.lit (.int .i64 (evFn 4 : Nat))) [] rfl ?_; intro w4 hown4 hgr4; have HO4 : Hid (w4.ownsMap Tryz.prog 9 fnElem (W.heap.size + 1) 4 (evMapD 4)) := Lib.hid hown4; have HZ4 := Lib.hid (HZ3.out.kept hgr4 HS3.out (by omega)); have HS4 := Lib.hid (Nat.lt_of_lt_of_le HS3.out hgr4.size); have HB4 := Lib.hid (HB3.out.grown hgr4 HB3.out.size (fun q hq => by cases hq; omega)); clear hown4 hgr4 HO3 HZ3 HS3 HB3) | (refine wpList_insert_own _ rfl (.tmp 5) (.const (.string ⟨#[102, 105, 110, 105, 115, 104]⟩)) (.func 56) 94 rfl 9 93 strK Tryz.underlying94 fnElem (W.heap.size + 1) 4 (evMapD 4) rfl HO4.out (by unfold maxLen; omega) _ _ (.string (evName 5)) rfl rfl (keyOf_str (s := ⟨#[102, 105, 110, 105, 115, 104]⟩) (by decide)) (.lit (.int .i64 (evFn 5 : Nat))) [] rfl ?_; intro w5 hown5 hgr5; have HO5 : Hid (w5.ownsMap Tryz.prog 9 fnElem (W.heap.size + 1) 5 (evMapD 5)) := Lib.hid hown5; have HZ5 := Lib.hid (HZ4.out.kept hgr5 HS4.out (by omega)); have HS5 := Lib.hid (Nat.lt_of_lt_of_le HS4.out hgr5.size); have HB5 := Lib.hid (HB4.out.grown hgr5 HB4.out.size (fun q hq => by cases hq; omega)); clear hown5 hgr5 HO4 HZ4 HS4 HB4) | (refine wpList_insert_own _ rfl (.tmp 5) (.const (.string ⟨#[99, 111, 109, 109, 105, 116, 116, 101, 100]⟩)) (.func 57) 94 rfl 9 93 strK Tryz.underlying94 fnElem (W.heap.size + 1) 5 (evMapD 5) rfl HO5.out (by unfold maxLen; omega) _ _ (.string (evName 6)) rfl rfl (keyOf_str (s := ⟨#[99, 111, 109, 109, 105, 116, 116, 101, 100]⟩) (by decide)) (.lit (.int .i64 (evFn 6 : Nat))) [] rfl ?_; intro w6 hown6 hgr6; have HO6 : Hid (w6.ownsMap Tryz.prog 9 fnElem (W.heap.size + 1) 6 (evMapD 6)) := Lib.hid hown6; have HZ6 := Lib.hid (HZ5.out.kept hgr6 HS5.out (by omega)); have HS6 := Lib.hid (Nat.lt_of_lt_of_le HS5.out hgr6.size); have HB6 := Lib.hid (HB5.out.grown hgr6 HB5.out.size (fun q hq => by cases hq; omega)); clear hown6 hgr6 HO5 HZ5 HS5 HB5) | (refine wpList_insert_own _ rfl (.tmp 5) (.const (.string ⟨#[97, 98, 111, 114, 116, 101, 100]⟩)) (.func 58) 94 rfl 9 93 strK Tryz.underlying94 fnElem (W.heap.size + 1) 6 (evMapD 6) rfl HO6.out (by unfold maxLen; omega) _ _ (.string (evName 7)) rfl rfl (keyOf_str (s := ⟨#[97, 98, 111, 114, 116, 101, 100]⟩) (by decide)) (.lit (.int .i64 (evFn 7 : Nat))) [] rfl ?_; intro w7 hown7 hgr7; have HO7 : Hid (w7.ownsMap Tryz.prog 9 fnElem (W.heap.size + 1) 7 (evMapD 7)) := Lib.hid hown7; have HZ7 := Lib.hid (HZ6.out.kept hgr7 HS6.out (by omega)); have HS7 := Lib.hid (Nat.lt_of_lt_of_le HS6.out hgr7.size); have HB7 := Lib.hid (HB6.out.grown hgr7 HB6.out.size (fun q hq => by cases hq; omega)); clear hown7 hgr7 HO6 HZ6 HS6 HB6) | (refine wpList_insert_own _ rfl (.tmp 5) (.const (.string ⟨#[99, 114, 97, 115, 104, 101, 100]⟩)) (.func 59) 94 rfl 9 93 strK Tryz.underlying94 fnElem (W.heap.size + 1) 7 (evMapD 7) rfl HO7.out (by unfold maxLen; omega) _ _ (.string (evName 8)) rfl rfl (keyOf_str (s := ⟨#[99, 114, 97, 115, 104, 101, 100]⟩) (by decide)) (.lit (.int .i64 (evFn 8 : Nat))) [] rfl ?_; intro w8 hown8 hgr8; have HO8 : Hid (w8.ownsMap Tryz.prog 9 fnElem (W.heap.size + 1) 8 (evMapD 8)) := Lib.hid hown8; have HZ8 := Lib.hid (HZ7.out.kept hgr8 HS7.out (by omega)); have HS8 := Lib.hid (Nat.lt_of_lt_of_le HS7.out hgr8.size); have HB8 := Lib.hid (HB7.out.grown hgr8 HB7.out.size (fun q hq => by cases hq; omega)); clear hown8 hgr8 HO7 HZ7 HS7 HB7))
 have HRD := Lib.hid (read_ev s _ w8 (HTW.out.below HB8.out) HO8.out hs (by have := HB8.out.size; omega))
 refine HRD.out.mono ?_
 rintro e w9 ⟨hE, hb9⟩
 have HZ9 := Lib.hid (HZ8.out.below hb9 HS8.out)
 have HB9 := Lib.hid (HB8.out.trans (hb9.mono HB8.out.size))
 obtain ⟨⟨r0, z0⟩, ⟨r1, z1⟩, ⟨r2, z2⟩, ⟨r3, z3⟩, ⟨r4, z4⟩, ⟨r5, z5⟩, ⟨r6, z6⟩⟩ := zeros_7 HZ9.out
 clear hb9 HRD
 cases hp : evP s.data.toList with
 | none =>
  rw [hp] at hE
  obtain rfl := hE
  have HP := Lib.hid hp
  clear hp
  obtain ⟨q0, q1, q2, q3, q4, q5, q6⟩ := set7 r0 r1 r2 r3 r4 r5 r6 (.int .i64 0) (.int .i64 0) (.int .i64 0) (.int .i64 0) (.int .i64 0) (.int .i64 0) (.int .i64 0)
  go_wp2
  refine bodyPost_ret (by simp [results, Tryz.results18, go_sem, q0, q1, q2, q3, q4, q5, q6] <;> rfl) rfl ?_
  rw [HP.out]
  exact ⟨rfl, HB9.out.trans ((put7_below (w := w9) (Nat.le_refl W.heap.size) (.int .i64 0) (.int .i64 0) (.int .i64 0) (.int .i64 0) (.int .i64 0) (.int .i64 0) (.int .i64 0)))⟩
 | some E =>
  rw [hp] at hE
  obtain ⟨ek, ec, ex, et, er, em, eq⟩ := E
  obtain rfl := hE
  unfold evC
  have HP := Lib.hid hp
  clear hp
  obtain ⟨q0, q1, q2, q3, q4, q5, q6⟩ := set7 r0 r1 r2 r3 r4 r5 r6 (.int .i64 ek) (.int .i64 ec) (.int .i64 ex) (.int .i64 et) (.int .i64 er) (.int .i64 em) (.int .i64 eq)
  go_wp2
  refine bodyPost_ret (by simp [results, Tryz.results18, go_sem, q0, q1, q2, q3, q4, q5, q6] <;> rfl) rfl ?_
  rw [HP.out]
  exact ⟨rfl, HB9.out.trans ((put7_below (w := w9) (Nat.le_refl W.heap.size) (.int .i64 ek) (.int .i64 ec) (.int .i64 ex) (.int .i64 et) (.int .i64 er) (.int .i64 em) (.int .i64 eq)))⟩
end Go.Proofs.YtjpjlfjaapfnkaaGreatDoor

/- catchboltlaw24.TextApart: unlike events have unlike texts, and unlike entries, and no event's text is an entry's; the listed variables read as the program's text lays them. -/
import Derived.Test.YtjpjlfjaapfnkaaGreatDoorML3
import Derived.Test.YtjpjlfjaapfnkaaGreatDoorCards
import Derived.Test.YtjpjlfjaapfnkaaGreatDoorTie
import Derived.Test.YtjpjlfjaapfnkaaGreatDoorMH2
import Derived.Test.YtjpjlfjaapfnkaaGreatDoorAgg
import Derived.WalkKit
import Derived.ProofKit
import Derived.OpenShut
import Derived.ShutString
import Derived.ChangeOld
import Derived.Below
import Derived.Deep.DeepHandedRow
import Derived.Lib.LaidTab
import Derived.SevenTiedAt
namespace Go.Proofs.YtjpjlfjaapfnkaaGreatDoor.textApart
open Go.ChangeShapes Go.WideShapes Go.ChangeAt Go.RowKit
open Go.ChangeMaps (open_string shut_string)
set_option linter.unusedVariables false

theorem own : ownKnob Tryz.prog.godebug = none := by kernel_rfl
theorem laidOut : laidOutB Tryz.prog = true := by kernel_rfl

theorem walk (a0_0 a0_1 a0_2 a0_3 a0_4 a0_5 a0_6 : Int) (a1_0 a1_1 a1_2 a1_3 a1_4 a1_5 a1_6 : Int) (a2_0 a2_1 a2_2 a2_3 a2_4 a2_5 : Int) (a3_0 a3_1 a3_2 a3_3 a3_4 a3_5 : Int) (w : World) (hE : LaidW w) (w0_0 : (Lit.int .i64 a0_0).wf = true) (w0_1 : (Lit.int .i64 a0_1).wf = true) (w0_2 : (Lit.int .i64 a0_2).wf = true) (w0_3 : (Lit.int .i64 a0_3).wf = true) (w0_4 : (Lit.int .i64 a0_4).wf = true) (w0_5 : (Lit.int .i64 a0_5).wf = true) (w0_6 : (Lit.int .i64 a0_6).wf = true) (w1_0 : (Lit.int .i64 a1_0).wf = true) (w1_1 : (Lit.int .i64 a1_1).wf = true) (w1_2 : (Lit.int .i64 a1_2).wf = true) (w1_3 : (Lit.int .i64 a1_3).wf = true) (w1_4 : (Lit.int .i64 a1_4).wf = true) (w1_5 : (Lit.int .i64 a1_5).wf = true) (w1_6 : (Lit.int .i64 a1_6).wf = true) (w2_0 : (Lit.int .i64 a2_0).wf = true) (w2_1 : (Lit.int .i64 a2_1).wf = true) (w2_2 : (Lit.int .i64 a2_2).wf = true) (w2_3 : (Lit.int .i64 a2_3).wf = true) (w2_4 : (Lit.int .i64 a2_4).wf = true) (w2_5 : (Lit.int .i64 a2_5).wf = true) (w3_0 : (Lit.int .i64 a3_0).wf = true) (w3_1 : (Lit.int .i64 a3_1).wf = true) (w3_2 : (Lit.int .i64 a3_2).wf = true) (w3_3 : (Lit.int .i64 a3_3).wf = true) (w3_4 : (Lit.int .i64 a3_4).wf = true) (w3_5 : (Lit.int .i64 a3_5).wf = true) :
    Calls Tryz.prog 4 #[.agg #[.int .i64 a0_0, .int .i64 a0_1, .int .i64 a0_2, .int .i64 a0_3, .int .i64 a0_4, .int .i64 a0_5, .int .i64 a0_6], .agg #[.int .i64 a1_0, .int .i64 a1_1, .int .i64 a1_2, .int .i64 a1_3, .int .i64 a1_4, .int .i64 a1_5, .int .i64 a1_6], .agg #[.int .i64 a2_0, .int .i64 a2_1, .int .i64 a2_2, .int .i64 a2_3, .int .i64 a2_4, .int .i64 a2_5], .agg #[.int .i64 a3_0, .int .i64 a3_1, .int .i64 a3_2, .int .i64 a3_3, .int .i64 a3_4, .int .i64 a3_5]] w fun e w' => e = .returned (.bool true) ∧ Below w.heap.size w w' :=
  by
  exact textapart_true ⟨a0_0, a0_1, a0_2, a0_3, a0_4, a0_5, a0_6⟩ ⟨a1_0, a1_1, a1_2, a1_3, a1_4, a1_5, a1_6⟩ ⟨a2_0, a2_1, a2_2, a2_3, a2_4, a2_5⟩ ⟨a3_0, a3_1, a3_2, a3_3, a3_4, a3_5⟩ w hE.1 hE.2

set_option maxRecDepth 100000 in
theorem contract (H : Type) (enc : TypeId × Value → H) (W : World) (base : Nat) (args : Array Value) (ds gs : List (DataW H)) (before : List MemPlace)
    (hval0 : ∀ (j : Nat) t v, Tryz.f4.params[j]? = some t → args[j]? = some v → Value.okWide Tryz.prog W .any base t v)
    (hW : DataW.Whole enc Tryz.prog Tryz.f4.params.toList Rows.textApartSpec.vars false W args.toList ds gs before) (hL : laidMetH Tryz.prog Rows.textApartRow.laid W) (hsh : W.ShapedOpen Tryz.prog) (hz : (DataW.weightsEach Tryz.prog (Tryz.f4.params.toList ++ (OpenSpec.ofChange Rows.textApartSpec).bare.plain.varTypes Tryz.prog) (ds ++ gs)).all (· ≤ reachBytes) = true) :
    Calls Tryz.prog 4 args W fun e W' => ∃ v, e = .returned v ∧ Rows.textApartSpec.post enc Tryz.prog Tryz.f4 false true false false W args v W' := by
  have hval : ∀ (j : Nat) t v, Tryz.f4.params[j]? = some t → args[j]? = some v → Value.okWide Tryz.prog W .any base t v := hval0
  have hE : LaidW W := laidW_of hL hsh
  have hW' := hW
  obtain ⟨p, q, hA0, hV, rfl, hfz, hnd⟩ := hW
  have hA : DataW.TrodAll enc Tryz.prog W 0 (fun _ => true) true Tryz.f4.params.toList args.toList ds p := hA0
  rw [Tryz.params4] at hA hval hz
  obtain ⟨v0, vs0, d0, ds0, p0, q0, hargs, rfl, rfl, h0, r0⟩ := trodAll_cons hA
  obtain ⟨v1, vs1, d1, ds1, p1, q1, rfl, rfl, rfl, h1, r1⟩ := trodAll_cons r0
  obtain ⟨v2, vs2, d2, ds2, p2, q2, rfl, rfl, rfl, h2, r2⟩ := trodAll_cons r1
  obtain ⟨v3, vs3, d3, ds3, p3, q3, rfl, rfl, rfl, h3, r3⟩ := trodAll_cons r2
  obtain ⟨rfl, rfl, rfl⟩ := trodAll_nil r3
  obtain rfl : args = #[v0, v1, v2, v3] := by cases args; simp_all
  obtain ⟨rfl, rfl⟩ := trodVars_none hV
  simp only [List.cons_append, List.nil_append, DataW.weightsEach, List.all_append, Bool.and_eq_true] at hz
  obtain ⟨b0, b1, b2, b3, _⟩ := hz
  have k0 := h0
  have lt0 : ∀ x ∈ p0, x.block < W.heap.size := by obtain ⟨m, hm⟩ := k0; exact DataW.trod_lt m _ _ _ hm
  obtain ⟨cs0, rfl, sz0, oc0⟩ := okWide_fields Tryz.underlying44 (ts := [3, 3, 3, 3, 3, 31, 3]) (by kernel_rfl) (by kernel_rfl) (hval 0 44 v0 rfl rfl)
  obtain ⟨c0_0, c0_1, c0_2, c0_3, c0_4, c0_5, c0_6, rfl⟩ := arr7 (sz0.trans (show Tryz.prog.cellsOf 44 = 7 by kernel_rfl))
  obtain ⟨a0_0, rfl, w0_0⟩ := cell_int Tryz.underlying3 (oc0 0 _ _ rfl rfl)
  obtain ⟨a0_1, rfl, w0_1⟩ := cell_int Tryz.underlying3 (oc0 1 _ _ rfl rfl)
  obtain ⟨a0_2, rfl, w0_2⟩ := cell_int Tryz.underlying3 (oc0 2 _ _ rfl rfl)
  obtain ⟨a0_3, rfl, w0_3⟩ := cell_int Tryz.underlying3 (oc0 3 _ _ rfl rfl)
  obtain ⟨a0_4, rfl, w0_4⟩ := cell_int Tryz.underlying3 (oc0 4 _ _ rfl rfl)
  obtain ⟨a0_5, rfl, w0_5⟩ := cell_int Tryz.underlying31 (oc0 5 _ _ rfl rfl)
  obtain ⟨a0_6, rfl, w0_6⟩ := cell_int Tryz.underlying3 (oc0 6 _ _ rfl rfl)
  have k1 := h1
  have lt1 : ∀ x ∈ p1, x.block < W.heap.size := by obtain ⟨m, hm⟩ := k1; exact DataW.trod_lt m _ _ _ hm
  obtain ⟨cs1, rfl, sz1, oc1⟩ := okWide_fields Tryz.underlying44 (ts := [3, 3, 3, 3, 3, 31, 3]) (by kernel_rfl) (by kernel_rfl) (hval 1 44 v1 rfl rfl)
  obtain ⟨c1_0, c1_1, c1_2, c1_3, c1_4, c1_5, c1_6, rfl⟩ := arr7 (sz1.trans (show Tryz.prog.cellsOf 44 = 7 by kernel_rfl))
  obtain ⟨a1_0, rfl, w1_0⟩ := cell_int Tryz.underlying3 (oc1 0 _ _ rfl rfl)
  obtain ⟨a1_1, rfl, w1_1⟩ := cell_int Tryz.underlying3 (oc1 1 _ _ rfl rfl)
  obtain ⟨a1_2, rfl, w1_2⟩ := cell_int Tryz.underlying3 (oc1 2 _ _ rfl rfl)
  obtain ⟨a1_3, rfl, w1_3⟩ := cell_int Tryz.underlying3 (oc1 3 _ _ rfl rfl)
  obtain ⟨a1_4, rfl, w1_4⟩ := cell_int Tryz.underlying3 (oc1 4 _ _ rfl rfl)
  obtain ⟨a1_5, rfl, w1_5⟩ := cell_int Tryz.underlying31 (oc1 5 _ _ rfl rfl)
  obtain ⟨a1_6, rfl, w1_6⟩ := cell_int Tryz.underlying3 (oc1 6 _ _ rfl rfl)
  have k2 := h2
  have lt2 : ∀ x ∈ p2, x.block < W.heap.size := by obtain ⟨m, hm⟩ := k2; exact DataW.trod_lt m _ _ _ hm
  obtain ⟨cs2, rfl, sz2, oc2⟩ := okWide_fields Tryz.underlying25 (ts := [3, 3, 3, 3, 3, 3]) (by kernel_rfl) (by kernel_rfl) (hval 2 25 v2 rfl rfl)
  obtain ⟨c2_0, c2_1, c2_2, c2_3, c2_4, c2_5, rfl⟩ := arr6 (sz2.trans (show Tryz.prog.cellsOf 25 = 6 by kernel_rfl))
  obtain ⟨a2_0, rfl, w2_0⟩ := cell_int Tryz.underlying3 (oc2 0 _ _ rfl rfl)
  obtain ⟨a2_1, rfl, w2_1⟩ := cell_int Tryz.underlying3 (oc2 1 _ _ rfl rfl)
  obtain ⟨a2_2, rfl, w2_2⟩ := cell_int Tryz.underlying3 (oc2 2 _ _ rfl rfl)
  obtain ⟨a2_3, rfl, w2_3⟩ := cell_int Tryz.underlying3 (oc2 3 _ _ rfl rfl)
  obtain ⟨a2_4, rfl, w2_4⟩ := cell_int Tryz.underlying3 (oc2 4 _ _ rfl rfl)
  obtain ⟨a2_5, rfl, w2_5⟩ := cell_int Tryz.underlying3 (oc2 5 _ _ rfl rfl)
  have k3 := h3
  have lt3 : ∀ x ∈ p3, x.block < W.heap.size := by obtain ⟨m, hm⟩ := k3; exact DataW.trod_lt m _ _ _ hm
  obtain ⟨cs3, rfl, sz3, oc3⟩ := okWide_fields Tryz.underlying25 (ts := [3, 3, 3, 3, 3, 3]) (by kernel_rfl) (by kernel_rfl) (hval 3 25 v3 rfl rfl)
  obtain ⟨c3_0, c3_1, c3_2, c3_3, c3_4, c3_5, rfl⟩ := arr6 (sz3.trans (show Tryz.prog.cellsOf 25 = 6 by kernel_rfl))
  obtain ⟨a3_0, rfl, w3_0⟩ := cell_int Tryz.underlying3 (oc3 0 _ _ rfl rfl)
  obtain ⟨a3_1, rfl, w3_1⟩ := cell_int Tryz.underlying3 (oc3 1 _ _ rfl rfl)
  obtain ⟨a3_2, rfl, w3_2⟩ := cell_int Tryz.underlying3 (oc3 2 _ _ rfl rfl)
  obtain ⟨a3_3, rfl, w3_3⟩ := cell_int Tryz.underlying3 (oc3 3 _ _ rfl rfl)
  obtain ⟨a3_4, rfl, w3_4⟩ := cell_int Tryz.underlying3 (oc3 4 _ _ rfl rfl)
  obtain ⟨a3_5, rfl, w3_5⟩ := cell_int Tryz.underlying3 (oc3 5 _ _ rfl rfl)
  clear hA0 hval0
  refine (walk a0_0 a0_1 a0_2 a0_3 a0_4 a0_5 a0_6 a1_0 a1_1 a1_2 a1_3 a1_4 a1_5 a1_6 a2_0 a2_1 a2_2 a2_3 a2_4 a2_5 a3_0 a3_1 a3_2 a3_3 a3_4 a3_5 W hE w0_0 w0_1 w0_2 w0_3 w0_4 w0_5 w0_6 w1_0 w1_1 w1_2 w1_3 w1_4 w1_5 w1_6 w2_0 w2_1 w2_2 w2_3 w2_4 w2_5 w3_0 w3_1 w3_2 w3_3 w3_4 w3_5).mono fun e W' ⟨he, bel⟩ => ?_
  subst he
  exact ⟨_, rfl, _, _, _, [], _, [], hW', trodAll_mk1 (shut_bool Tryz.underlying4 _), (trodAll_cons_mk (Below.trod laidOut (by kernel_rfl) (of_decide_eq_true (by kernel_rfl)) k0 bel lt0) (trodAll_cons_mk (Below.trod laidOut (by kernel_rfl) (of_decide_eq_true (by kernel_rfl)) k1 bel lt1) (trodAll_cons_mk (Below.trod laidOut (by kernel_rfl) (of_decide_eq_true (by kernel_rfl)) k2 bel lt2) (trodAll_cons_mk (Below.trod laidOut (by kernel_rfl) (of_decide_eq_true (by kernel_rfl)) k3 bel lt3) trodAll_mk0)))), rfl, bel.frame _, fun h => by cases h⟩

theorem laid_met (os : Os) : laidMetH Tryz.prog Rows.textApartRow.laid ((laidWorld os).forCall (fun _ _ => 0) ⟨#[], #[.agg #[.int .i64 0, .int .i64 0, .int .i64 0, .int .i64 0, .int .i64 0, .int .i64 0, .int .i64 0], .agg #[.int .i64 0, .int .i64 0, .int .i64 0, .int .i64 0, .int .i64 0, .int .i64 0, .int .i64 0], .agg #[.int .i64 0, .int .i64 0, .int .i64 0, .int .i64 0, .int .i64 0, .int .i64 0], .agg #[.int .i64 0, .int .i64 0, .int .i64 0, .int .i64 0, .int .i64 0, .int .i64 0]], []⟩).memory :=
  laidWorld_met os _
theorem reads (os : Os) {H : Type} (enc : TypeId × Value → H) : ∃ places, DataW.whole enc Tryz.prog ((laidWorld os).forCall (fun _ _ => 0) ⟨#[], #[.agg #[.int .i64 0, .int .i64 0, .int .i64 0, .int .i64 0, .int .i64 0, .int .i64 0, .int .i64 0], .agg #[.int .i64 0, .int .i64 0, .int .i64 0, .int .i64 0, .int .i64 0, .int .i64 0, .int .i64 0], .agg #[.int .i64 0, .int .i64 0, .int .i64 0, .int .i64 0, .int .i64 0, .int .i64 0], .agg #[.int .i64 0, .int .i64 0, .int .i64 0, .int .i64 0, .int .i64 0, .int .i64 0]], []⟩).memory Tryz.f4.params.toList Rows.textApartSpec.vars false (#[.agg #[.int .i64 0, .int .i64 0, .int .i64 0, .int .i64 0, .int .i64 0, .int .i64 0, .int .i64 0], .agg #[.int .i64 0, .int .i64 0, .int .i64 0, .int .i64 0, .int .i64 0, .int .i64 0, .int .i64 0], .agg #[.int .i64 0, .int .i64 0, .int .i64 0, .int .i64 0, .int .i64 0, .int .i64 0], .agg #[.int .i64 0, .int .i64 0, .int .i64 0, .int .i64 0, .int .i64 0, .int .i64 0]] : Array Value).toList 8 = some ([.agg [.lit (.int .i64 0), .lit (.int .i64 0), .lit (.int .i64 0), .agg [.lit (.int .i64 0), .lit (.int .i64 0)], .lit (.int .i64 0), .lit (.int .i64 0)], .agg [.lit (.int .i64 0), .lit (.int .i64 0), .lit (.int .i64 0), .agg [.lit (.int .i64 0), .lit (.int .i64 0)], .lit (.int .i64 0), .lit (.int .i64 0)], .agg [.lit (.int .i64 0), .lit (.int .i64 0), .agg [.lit (.int .i64 0), .lit (.int .i64 0)], .lit (.int .i64 0), .lit (.int .i64 0)], .agg [.lit (.int .i64 0), .lit (.int .i64 0), .agg [.lit (.int .i64 0), .lit (.int .i64 0)], .lit (.int .i64 0), .lit (.int .i64 0)]], [], places) :=
  ⟨[], by kernel_rfl⟩

set_option maxRecDepth 100000 in
theorem lifted (os : Os) (started : os.Started) (H : Type) (enc : TypeId × Value → H) (F : Stop.Interp) :
    ReturnsInHanded {} Tryz.checked os 4 .any ((OpenSpec.ofChange Rows.textApartSpec).preRow enc Tryz.prog Tryz.f4 Rows.textApartRow.domain false Rows.textApartRow.laid) (((OpenSpec.ofChange Rows.textApartSpec).at F).post enc Tryz.prog Tryz.f4 false true false false) := by
  obtain ⟨places, hx⟩ := reads os enc
  refine returnsInHanded_of_row (C := Tryz.checked) (s := OpenSpec.ofChange Rows.textApartSpec) own started (by kernel_rfl) Tryz.func4
    (witness_row_atRef (enc := enc) (C := Tryz.checked) false (laidWorld os) #[.agg #[.int .i64 0, .int .i64 0, .int .i64 0, .int .i64 0, .int .i64 0, .int .i64 0, .int .i64 0], .agg #[.int .i64 0, .int .i64 0, .int .i64 0, .int .i64 0, .int .i64 0, .int .i64 0, .int .i64 0], .agg #[.int .i64 0, .int .i64 0, .int .i64 0, .int .i64 0, .int .i64 0, .int .i64 0], .agg #[.int .i64 0, .int .i64 0, .int .i64 0, .int .i64 0, .int .i64 0, .int .i64 0]] (laidWorld_os os) (by kernel_rfl) (by kernel_rfl) (by kernel_rfl)
      (OpenSpec.preRow_of_cond 8 hx (by kernel_rfl) (fun k hk => by cases hk) (by kernel_rfl) (laid_met os))) ?_
  intro W base args ds gs before hval hW _ hcond hz hL hsh _
  exact contract H enc W base args ds gs before hval hW hL hsh hz

theorem over : Rows.textApartRow.holds Tryz.pinned (OpenSpec.ofChange Rows.textApartSpec) :=
  OpenClaim.holds_of_cond 4 Tryz.f4 rfl rfl rfl rfl rfl rfl rfl ⟨rfl, rfl, rfl, rfl, rfl⟩ rfl rfl rfl rfl rfl (by kernel_rfl) Tryz.func4 (by kernel_rfl)
    (of_decide_eq_true (by kernel_rfl)) (by unfold Func.isWrapper; first | (rw [if_pos (by decide +kernel)]; kernel_rfl) | (rw [if_neg (by decide +kernel)]; exact ⟨rfl, rfl⟩))
    (fun os started H enc _ F => by rw [OpenClaim.pre_eq_preRow]; exact lifted os started H enc F)

theorem plain (f : FuncId) (fn : Func) (hf : Tryz.pinned.checked.prog.funcNamed "catchbolt/catchboltlaw24.TextApart" = some f) (hfn : Tryz.pinned.checked.prog.funcs[f]? = some fn) :
    true = Tryz.pinned.checked.prog.looks [] ∧ ∀ (j : Nat) t, fn.params[j]? = some t → Tryz.pinned.checked.prog.wantsStandIn t = false := by
  obtain rfl : f = 4 := Option.some.inj ((show Tryz.prog.funcNamed "catchbolt/catchboltlaw24.TextApart" = some 4 by kernel_rfl).symm.trans hf) |>.symm
  obtain rfl : fn = Tryz.f4 := (Option.some.inj (Tryz.func4.symm.trans hfn)).symm
  refine ⟨by kernel_rfl, fun j t ht => ?_⟩
  rw [Tryz.params4] at ht
  have hm := Array.mem_of_getElem? ht
  simp at hm
  have hu : t = 44 ∨ t = 25 := by first | omega | exact hm | (rcases hm with h | h | h <;> simp [h]) | (rcases hm with h | h <;> simp [h])
  rcases hu with rfl | rfl
  · exact (show Tryz.prog.wantsStandIn 44 = false by kernel_rfl)
  · exact (show Tryz.prog.wantsStandIn 25 = false by kernel_rfl)

theorem proved : Rows.TextApartCardSaid :=
  Claim7.holds_tied_plain_at .later [] _ _ _ _ over (fun _ h => by cases h) (by kernel_rfl) (fun _ h => by cases h) textApart_row_tie rfl ⟨rfl, rfl⟩ (by kernel_rfl) rfl plain (by kernel_rfl)
end Go.Proofs.YtjpjlfjaapfnkaaGreatDoor.textApart

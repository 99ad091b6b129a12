/-
  catchboltlaw20.alive: true. The condition: errors.errorType reads as the program's text lays it.
-/
import Derived.Test.YtggkohkngockoaaDoorPAlive
namespace Go.Proofs.YtggkohkngockoaaDoor
open Go.ChangeShapes Go.WideShapes Go.ChangeAt Go.RowKit Go.Maps
set_option linter.unusedVariables false
set_option linter.unusedSimpArgs false

theorem rde_of_block2 {w : World} {g : Nat} {cs : Array Value} {T : TypeId} {fr : Nat × Nat} {es : List Ev} (h : w.heap[g]? = some (.cells cs T fr)) (hp : evV es <+: cs.toList) : RdE w (some ⟨g, 0, none⟩) es := by
  obtain ⟨rest, hc⟩ := hp
  refine ⟨g, 0, fun _ => ⟨rfl, (Array.getElem?_eq_some_iff.1 h).1⟩, fun i hi => cells7_of fun j u hj hu => ?_⟩
  have hg := (evV_get es i j hi hj).trans hu
  have hlt : 7 * i + j < (evV es).length := by rw [evV_length]; omega
  have hg2 : (evV es ++ rest)[7 * i + j]? = some u := by rw [List.getElem?_append_left hlt]; exact hg
  rw [hc] at hg2
  have := World.news_of_block h (7 * i + j) u hg2
  rw [add0] at this
  rwa [show 0 + i * 7 + j = 7 * i + j by omega]
/-- one event behind a full row: a new row; the old one stays -/
theorem wpList_append_full {ops : Array Oper} {rest : List Oper} {o : Oper} {a : Act} {Q : Exit → Act → World → Prop} {w : World} (hgd : o.guard = none) (s x : Operand)
    (ho : o.op = .call { callee := .builtin .append, args := #[s, x], argTypes := #[22, 22] }) (hty : o.type = 22)
    (g k : Nat) (xs : List Ev) (hs : a.eval s = .slice (some ⟨g, 0, none⟩) k k) (hh : w.heap[g]? = some (.cells (evV xs).toArray 43 (0, 0))) (hk : xs.length = k) (b c : Nat) (e : Ev) (hx : a.eval x = .slice (some ⟨b, 0, none⟩) 1 c) (hb : w.heap[b]? = some (.cells e.cells.toArray 43 (0, 0))) (hn : k ≤ 1000)
    (hc : ∀ A c w', RdE w' A (xs ++ [e]) → Below w.heap.size w w' → wpList Tryd.prog ops Q rest (a.put o.dst (.slice A (k + 1) c)) w') : wpList Tryd.prog ops Q (o :: rest) a w := by
  refine wpList_plain hgd fun K hK => ?_
  obtain ⟨i0, hi0, hz0, hz1, hz2⟩ := info_parts ev_info
  have hrun := run_append_grow (P := Tryd.prog) w 22 22 43 i0 _ Tryd.underlying22 hi0 hz0 ⟨g, 0, none⟩ k k (evV xs) (by rw [evV_length, hz1, hk, Nat.mul_comm]) (fun j v h => World.news_of_block hh j v (by simpa using h)) ⟨b, 0, none⟩ 1 c e.cells (by rw [hz1]; rfl) (fun j v h => World.news_of_block hb j v (by simpa using h)) (by omega) (by omega) (growslice_fits (by omega) (by rw [hz2]; omega))
  have hex : ∃ A cc w', (Builtin.append_ #[22, 22] 22 #[.slice (some ⟨g, 0, none⟩) k k, .slice (some ⟨b, 0, none⟩) 1 c]).run Tryd.prog w = .ok (.slice A (k + 1) cc) w' ∧ RdE w' A (xs ++ [e]) ∧ Below w.heap.size w w' := by
    refine ⟨_, _, _, hrun, rde_of_block2 (heap_alloc_new w.drew _) ?_, ((Below.refl _ _).drew).alloc (Nat.le_refl _) _⟩
    rw [evV_append, show evV [e] = e.cells by simp [evV], Array.toList_append, Array.toList_append]
    exact List.prefix_append _ _
  obtain ⟨A, cc, w', hr, h1, h2⟩ := hex
  unfold Oper.wp execOp
  simp only [ho, hty, resolve, invoke, builtin, Sem.run_bind, Sem.run_pure, Result.andThen_ok, List.map_toArray, List.map_cons, List.map_nil, hs, hx, hr]
  exact hK _ _ (hc A cc w' h1 h2)

set_option maxRecDepth 100000 in
set_option maxHeartbeats 4000000 in
theorem alive_true (w : World) (hE : ErrT w) :
    Calls Tryd.prog 7 #[] w fun e w' => e = .returned (.bool true) ∧ Below w.heap.size w w' := by
  have HE := Lib.hid hE
  clear hE
  go_enter Tryd.func7, Tryd.ntmps7
  go_wp2_with fail
  generalize hw1 : World.alloc (w.alloc (.cells #[.int .i64 3, .int .i64 0] 40)) _ = w1
  have hb1 : Below w.heap.size w w1 := by rw [← hw1]; go_grown
  have hs1 : w1.heap.size = w.heap.size + 2 := by rw [← hw1]; simp
  have hk1 : w1.heap[w.heap.size + 1]? = some (.cells (evV lA).toArray 43 (0, 0)) := by
    rw [← hw1, heap_push, if_pos (by simp)]; rfl
  have c0 : w1.cell? ⟨w.heap.size, 0, none⟩ = some (.int .i64 3) := by rw [← hw1]; simp
  have c1 : w1.cell? ⟨w.heap.size, 1, none⟩ = some (.int .i64 0) := by rw [← hw1]; simp
  have hr1 : RdE w1 (some ⟨w.heap.size + 1, 0, none⟩) lA := rde_of_block hk1 (by simp)
  have HC := Lib.hid (serial_good (some ⟨w.heap.size + 1, 0, none⟩) 5 5 lA w1 hr1 rfl (by decide) play_lA)
  have HB1 := Lib.hid hb1
  have HS1 := Lib.hid hs1
  have HK1 := Lib.hid hk1
  clear hw1 hb1 hs1 hk1 hr1
  refine HC.out.mono ?_
  rintro e w2 ⟨⟨v, rfl, hown⟩, hb2⟩
  obtain ⟨_, A, cn, rfl, _, _, hrn, _⟩ := rdn_of_own hown
  have hB2 := HB1.out.trans (hb2.mono HB1.out.size)
  have HB2 := Lib.hid hB2
  have HRN := Lib.hid hrn
  replace c0 := cell_keep hb2 c0
  replace c1 := cell_keep hb2 c1
  have hs2 := hb2.size
  have HK2 : Hid (w2.heap[w.heap.size + 1]? = some (.cells (evV lA).toArray 43 (0, 0))) := Lib.hid ((hb2.block _ (by have := HS1.out; omega)).trans HK1.out)
  have hl2 : w.heap.size + 1 < w2.heap.size := by have := HS1.out; omega
  have HO2 : Hid (w2.ownsRow 0 43 7 (.slice (some ⟨w.heap.size + 1, 0, none⟩) 5 5) 5 (evV lA)) := Lib.hid ⟨rfl, .inr ⟨w.heap.size + 1, 5, _, rfl, Nat.zero_le _, HK2.out, Nat.le_refl _, by decide, rfl, rfl⟩⟩
  clear hown hB2 hrn hb2 hs2 HC
  have n0 : ¬ w.heap.size = w2.heap.size := by omega
  go_wp2_with (at_builtin; refine wpList_append_full rfl _ _ rfl rfl (w.heap.size + 1) 5 lA rfl (((Below.refl _ _).alloc (Nat.le_refl _) _ : Below w2.heap.size w2 _).block _ hl2 |>.trans HK2.out) rfl w2.heap.size 1 eA rfl (by rw [heap_push, if_pos rfl]; rfl) (by decide) ?_; intro A7 c7 w7 hr7 hb7; have HR7 := Lib.hid hr7; have HB7 := Lib.hid (show Below w2.heap.size w2 w7 from ((Below.refl _ _).alloc (Nat.le_refl _) _ : Below w2.heap.size w2 _).trans (hb7.mono (by simp))); clear hr7 hb7)
  refine (check_bad A7 6 c7 (lA ++ [eA]) w7 HR7.out rfl (by decide) play_lA2).mono ?_
  rintro e w3 ⟨⟨b3, rfl, hF3⟩, hb3⟩
  have hB3 := HB7.out.trans (hb3.mono HB7.out.size)
  have HF3 := Lib.hid hF3
  have HB3 := Lib.hid hB3
  have hs3 := hB3.size
  have HR3 : Hid (RdE w3 (some ⟨w.heap.size + 1, 0, none⟩) lA) := Lib.hid (rde_of_block ((hB3.block _ hl2).trans HK2.out) (by simp))
  have HBT3 : Hid (Below w.heap.size w w3) := Lib.hid (HB2.out.trans (hB3.mono HB2.out.size))
  clear hF3 hb3 hB3 c0 c1
  have hbA : Below w3.heap.size w3 (w3.alloc (.cells #[.int .i64 1] 3)) := (Below.refl _ _).alloc (Nat.le_refl _) _
  have HI := Lib.hid (ints_yes A (some ⟨w3.heap.size, 0, none⟩) 1 cn 1 [1] (w3.alloc (.cells #[.int .i64 1] 3)) ((HRN.out.below HB3.out).below hbA) ⟨w3.heap.size, 0, fun _ => ⟨rfl, by simp⟩, fun i hi => by
    obtain rfl : i = 0 := by simpa using hi
    simp⟩ rfl (by decide))
  have HBA := Lib.hid hbA
  clear hbA
  go_wp2_with fail
  refine HI.out.mono ?_
  rintro e w4 ⟨rfl, hb4⟩
  have hB4 := HBA.out.trans (hb4.mono HBA.out.size)
  have HC4 := Lib.hid (check_good (some ⟨w.heap.size + 1, 0, none⟩) 5 5 lA w4 (HR3.out.below hB4 (Nat.le_refl _)) rfl (by decide) (ok_of_inl play_lA))
  have HB4 := Lib.hid hB4
  clear hb4 hB4 HI
  go_wp2_with fail
  refine HC4.out.mono ?_
  rintro e w5 ⟨rfl, hb5⟩
  have HB5 := Lib.hid (HB4.out.trans (hb5.mono HB4.out.size))
  have HBT5 : Hid (Below w.heap.size w w5) := Lib.hid (HBT3.out.trans (HB5.out.mono HBT3.out.size))
  have HF5 := Lib.hid (HF3.out.below HB5.out)
  have HA5 := Lib.hid (at_err _ 11 5 w5 HF5.out.err (HE.out.below HBT5.out))
  clear hb5
  go_wp2_with fail
  refine HA5.out.mono ?_
  rintro e w6 ⟨rfl, hb6⟩
  have HF6 := Lib.hid (HF5.out.below hb6)
  have HB6 : Hid (Below w.heap.size w w6) := Lib.hid (HBT5.out.trans (hb6.mono HBT5.out.size))
  have HC6 := Lib.hid (code_err _ 11 5 w6 HF6.out.err)
  clear hb6
  go_wp2_with (go_at_call 11; refine HC6.out.mono ?_; rintro e w' ⟨rfl, rfl⟩)
  go_ret
  exact ⟨rfl, HB6.out⟩
end Go.Proofs.YtggkohkngockoaaDoor

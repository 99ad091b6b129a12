/-
  slices.Delete of one element of a row of the call's own. No other conditions.
-/
import Derived.Test.YtpbgdldaojpjkaaPush
import Derived.Laws.CopyRow
import Derived.Laws.Tables
import Derived.Deep.RegionLaw
namespace Go.Proofs.Ytpbgdldaojpjkaa
open Go.ChangeShapes Go.WideShapes Go.ChangeAt Go.RowKit
set_option linter.unusedVariables false

theorem grown_setRow (w : World) (g : Nat) (cs : Array Value) : w.grownBy (w.setRow g cs) (some g) := by
  refine ⟨rfl, rfl, rfl, by simp [World.setRow], fun k hk hne => ?_⟩
  have hkg : g ≠ k := fun e => hne (by rw [e])
  simp [World.setRow, Array.getElem?_modify, hkg]
theorem grown_trans {w w1 w2 : World} {r : Option Nat} (h1 : w.grownBy w1 r) (h2 : w1.grownBy w2 r) : w.grownBy w2 r :=
  ⟨h2.os.trans h1.os, h2.tape.trans h1.tape, h2.output.trans h1.output, Nat.le_trans h1.size h2.size, fun k hk hne => (h2.block k (Nat.lt_of_lt_of_le hk h1.size) hne).trans (h1.block k hk hne)⟩
theorem grown_drew (w : World) (r : Option Nat) : w.grownBy w.drew r := ⟨rfl, rfl, rfl, Nat.le_refl _, fun _ _ _ => rfl⟩

/-- an append into the row itself, where there is room, as one step of a region that draws -/
theorem step_append_row {ops : Array Oper} {o : Oper} {a : Act} {w : World} {K : Act → World → Prop} {Q : Exit → Act → World → Prop} {E : Prop}
    (hgd : o.guard = none) (s x : Operand) (hop : o.op = Op.call { callee := Callee.builtin Builtin.append, args := #[s, x], argTypes := #[30, 30] })
    (gb n cap : Nat) (cur : Array Value) (hb : w.heap[gb]? = some (.cells cur 33 (0, 0))) (hs : a.eval s = .slice (some ⟨gb, 0, none⟩) n cap)
    (ad : Addr) (m c : Nat) (news : List Value) (hx : a.eval x = .slice (some ad) m c) (hn : news.length = m * 4) (hc : ∀ j u, news[j]? = some u → w.cell? (ad.add j) = some u) (h1c : ∀ u ∈ news, u.oneCell' = true)
    (hroom : n + m ≤ cap) (hfit : n * 4 + news.length ≤ cur.size)
    (hK : K (a.put o.dst (.slice (some ⟨gb, 0, none⟩) (n + m) cap)) (w.setRow gb (cur.toList.take (n * 4) ++ news ++ cur.toList.drop (n * 4 + news.length)).toArray)) :
    if Region.wanted o (yielded ops a.tmps) = true then Oper.wp Try.prog o a w K Q else E := by
  have hw : Region.wanted o (yielded ops a.tmps) = true := by simp [Region.wanted, hgd]
  rw [if_pos hw]
  obtain ⟨i0, hi0, hz0, hz1, hz2⟩ := info_parts wait_info
  have hrun := run_append_room (P := Try.prog) (w := w) 30 o.type 33 i0 Try.underlying30 hi0 gb n cap cur hb ad m c news (by rw [hz1]; exact hn) hc h1c hroom (by rw [hz1]; exact hfit)
  rw [hz1] at hrun
  unfold Oper.wp execOp
  simp only [hop, resolve, invoke, builtin, Sem.run_bind, Sem.run_pure, Result.andThen_ok, List.map_toArray, List.map_cons, List.map_nil, hs, hx, hrun]
  exact hK

/-- clearing one element -/
theorem run_clear_one (w : World) (gb k : Nat) (cur : Array Value) (hb : w.heap[gb]? = some (.cells cur 33 (0, 0))) (hfit : k + 4 ≤ cur.size) (ty : TypeId) (c : Nat) :
    (Builtin.clear_ #[30] ty #[.slice (some ⟨gb, k, none⟩) 1 c]).run Try.prog w = .ok (.tuple #[]) (w.setRow gb (cur.toList.take k ++ Wt.none.cells ++ cur.toList.drop (k + 4)).toArray) := by
  obtain ⟨i0, hi0, hz0, hz1, hz2⟩ := info_parts wait_info
  have hst := run_storeCells_at Try.prog gb k 33 Wt.none.cells 0 cur w hb (by show k + 0 + 4 ≤ cur.size; omega) (cells_oneW _)
  rw [show k + 0 = k from rfl, show Wt.none.cells.length = 4 from rfl] at hst
  have hz : (Builtin.zeroCells (Value.agg #[.int .i64 0, .int .i64 0, .int .i64 0, .bool false]).cells 1).toList = Wt.none.cells := by kernel_rfl
  simp only [Builtin.clear_, zeroValue, typeInfo]
  simp [run_underlying Try.underlying30, hi0, hz0, hz, hst]

set_option maxRecDepth 100000 in
set_option maxHeartbeats 4000000 in
theorem delete_any (B gb n cap i : Nat) (es : List Wt) (w : World) (hown : w.ownsRow B 33 4 (.slice (some ⟨gb, 0, none⟩) n cap) n (flatW es)) (hi : i < n) (hn : n ≤ 10000) :
    Calls Try.prog 27 #[.slice (some ⟨gb, 0, none⟩) n cap, .int .i64 i, .int .i64 ((i : Int) + 1)] w fun e w' => e = .returned (.slice (some ⟨gb, 0, none⟩) (n - 1) cap) ∧
      w'.ownsRow B 33 4 (.slice (some ⟨gb, 0, none⟩) (n - 1) cap) (n - 1) (flatW (es.eraseIdx i)) ∧ w.grownBy w' (some gb) := by
  have hel : es.length = n := by have := hown.1; rw [flatW_length] at this; omega
  obtain ⟨hlen, hr⟩ := hown
  rcases hr with ⟨h, _⟩ | ⟨g', cap', cur, hv, hB, hgb, hnc, hcm, hcs, htk⟩
  · cases h
  simp only [Value.slice.injEq, Option.some.injEq, Addr.mk.injEq, and_true] at hv
  obtain ⟨rfl, _, rfl⟩ := hv
  have hcap : cap ≤ 9223372036854775807 := by unfold maxLen at hcm; omega
  -- what is moved
  have hnl : (flatW (es.drop (i + 1))).length = (n - (i + 1)) * 4 := by rw [flatW_length, List.length_drop, hel]
  have hcell : ∀ j u, (flatW (es.drop (i + 1)))[j]? = some u → w.cell? ⟨gb, (i + 1) * 4 + j, none⟩ = some u := by
    intro j u hu
    have hj : j < (n - (i + 1)) * 4 := by
      rcases Nat.lt_or_ge j (flatW (es.drop (i + 1))).length with h | h
      · rw [hnl] at h; exact h
      · rw [List.getElem?_eq_none h] at hu; cases hu
    have hsplit : flatW es = flatW (es.take (i + 1)) ++ flatW (es.drop (i + 1)) := by rw [← flatW_append, List.take_append_drop]
    have h2 : (flatW es)[(i + 1) * 4 + j]? = some u := by
      rw [hsplit, List.getElem?_append_right (by rw [flatW_length, List.length_take]; omega), flatW_length, List.length_take, show (i + 1) * 4 + j - min (i + 1) es.length * 4 = j from by rw [Nat.min_eq_left (by omega)]; omega]
      exact hu
    rw [← htk, List.getElem?_take_of_lt (by omega)] at h2
    simp [World.cell?, hgb]
    simpa using h2
  have hA := Lib.hid (fun (w' : World) (h : w'.heap[gb]? = w.heap[gb]?) j u hu => show w'.cell? ((⟨gb, (i + 1) * 4, none⟩ : Addr).add j) = some u from by
    rw [show (⟨gb, (i + 1) * 4, none⟩ : Addr).add j = ⟨gb, (i + 1) * 4 + j, none⟩ from by unfold Addr.add; by_cases h : j = 0 <;> simp [h]]
    exact (World.cell?_of_block (a := ⟨gb, (i + 1) * 4 + j, none⟩) h).trans (hcell j u hu))
  have c1 : (i : Int) ≠ (i : Int) + 1 := by omega
  have c2 : (i : Int) + 1 ≤ n := by omega
  have c3 : (n : Int) ≤ cap := by omega
  have c4 : (0 : Int) ≤ (i : Int) + 1 := by omega
  have c5 : ((i : Int) + 1).toNat = i + 1 := by omega
  have c6 : (i : Int) ≤ cap := by omega
  have HNL := Lib.hid hnl
  have HT := Lib.hid htk
  have HC := Lib.hid hcell
  have HS := Lib.hid hcs
  have HG := Lib.hid hgb
  clear htk hcell hgb hcs hnl
  go_enter Try.func27, Try.ntmps27
  go_wp2
  obtain ⟨ad, had, hnews⟩ : ∃ ad : Addr, (∀ a b : Option Addr, a = some ⟨gb, 0, none⟩ → b = some ⟨gb, (i + 1) * 4, none⟩ → (if cap = i + 1 then a else b) = some ad) ∧ ∀ j u, (flatW (es.drop (i + 1)))[j]? = some u → w.drew.cell? (ad.add j) = some u := by
    by_cases hci : cap = i + 1
    · refine ⟨⟨gb, 0, none⟩, fun a b h _ => by rw [if_pos hci]; exact h, fun j u hu => ?_⟩
      have : (flatW (es.drop (i + 1))).length = 0 := by rw [HNL.out]; omega
      rw [List.getElem?_eq_none (by omega)] at hu; cases hu
    · exact ⟨⟨gb, (i + 1) * 4, none⟩, fun a b _ h => by rw [if_neg hci]; exact h, hA.out _ rfl⟩
  have HAD := Lib.hid had
  have HNW := Lib.hid hnews
  clear had hnews
  go_region_law (refine step_append_row rfl (.tmp 22) (.tmp 25) rfl gb i cap cur (by exact HG.out) (by simp [Act.eval, Act.put]) ad (n - (i + 1)) (cap - (i + 1)) (flatW (es.drop (i + 1))) (by simp [Act.eval, Act.put]; exact HAD.out _ _ rfl rfl) HNL.out HNW.out (flatW_oneCell _) (by omega) (by rw [HNL.out, HS.out]; omega) ?_)
  have hin : i + (n - (i + 1)) = n - 1 := by omega
  rw [hin]
  generalize hc1 : (cur.toList.take (i * 4) ++ (flatW (es.drop (i + 1)) ++ cur.toList.drop (i * 4 + (flatW (es.drop (i + 1))).length))).toArray = cur1
  generalize hw1 : w.drew.setRow gb cur1 = w1
  have hcl : cur.toList.length = cap * 4 := by simpa using HS.out
  have hb1 : w1.heap[gb]? = some (.cells cur1 33 (0, 0)) := by rw [← hw1]; exact setRow_heap _ _ _ _ _ _ (by exact HG.out)
  have hg1 : w.grownBy w1 (some gb) := by rw [← hw1]; exact grown_trans (grown_drew w _) (grown_setRow _ _ _)
  have hs1 : cur1.size = cap * 4 := by
    rw [← hc1]
    simp only [List.size_toArray, List.length_append, List.length_take, List.length_drop, HNL.out, hcl]
    omega
  have ht1 : cur1.toList.take ((n - 1) * 4) = flatW (es.eraseIdx i) := by
    have h0 : cur.toList.take (i * 4) = flatW (es.take i) := by
      have h2 : flatW es = flatW (es.take i) ++ flatW (es.drop i) := by rw [← flatW_append, List.take_append_drop]
      have h3 : (cur.toList.take (n * 4)).take (i * 4) = flatW (es.take i) := by
        rw [HT.out, h2, List.take_append_of_le_length (by rw [flatW_length, List.length_take]; omega), List.take_of_length_le (by rw [flatW_length, List.length_take]; omega)]
      rw [List.take_take, Nat.min_eq_left (by omega)] at h3
      exact h3
    rw [← hc1, h0]
    show (flatW (es.take i) ++ (flatW (es.drop (i + 1)) ++ _)).take ((n - 1) * 4) = _
    rw [← List.append_assoc, ← flatW_append, List.eraseIdx_eq_take_drop_succ]
    rw [List.take_append_of_le_length (by rw [flatW_length, List.length_append, List.length_take, List.length_drop]; omega), List.take_of_length_le (by rw [flatW_length, List.length_append, List.length_take, List.length_drop]; omega)]
  have HB1 := Lib.hid hb1
  have HG1 := Lib.hid hg1
  have HS1 := Lib.hid hs1
  have HT1 := Lib.hid ht1
  clear hb1 hg1 hs1 ht1 hc1 hw1 hcl hin
  have d1 : ((n - 1 : Nat) : Int) ≤ n := by omega
  have d2 : (n : Int) ≤ cap := by omega
  have d3 : (0 : Int) ≤ ((n - 1 : Nat) : Int) := by omega
  have d4 : n - (n - 1) = 1 := by omega
  have hclr := run_clear_one w1 gb ((n - 1) * 4) cur1 HB1.out (by rw [HS1.out]; omega)
  generalize hc2 : (cur1.toList.take ((n - 1) * 4) ++ Wt.none.cells ++ cur1.toList.drop ((n - 1) * 4 + 4)).toArray = cur2 at hclr
  have HC2 := Lib.hid hc2
  clear hc2
  go_wp2
  all_goals
    go_ret
    refine ⟨rfl, ⟨by rw [flatW_length, List.length_eraseIdx, if_pos (by omega), hel], .inr ⟨gb, _, _, rfl, hB, setRow_heap _ _ _ _ _ _ HB1.out, by omega, by first | assumption | omega, ?_, ?_⟩⟩, grown_trans HG1.out (grown_setRow _ _ _)⟩
    · have h1 := HS1.out
      have h2 : cur1.toList.length = cur1.size := by simp
      rw [← HC2.out]
      simp only [List.size_toArray, List.length_append, List.length_take, List.length_drop, h2, show Wt.none.cells.length = 4 from rfl]
      omega
    · have h1 := HS1.out
      have h2 : cur1.toList.length = cur1.size := by simp
      rw [← HC2.out]
      show (cur1.toList.take ((n - 1) * 4) ++ Wt.none.cells ++ _).take ((n - 1) * 4) = _
      rw [List.append_assoc, List.take_append_of_le_length (by rw [List.length_take]; omega), List.take_take, Nat.min_self]
      exact HT1.out
end Go.Proofs.Ytpbgdldaojpjkaa

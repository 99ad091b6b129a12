/-
  res.number, res.errForm: a number read from a place on. No other conditions.
-/
import Derived.Test.YtonphamahnagfaaDoorResF
import Derived.Test.YtonphamahnagfaaDoorNum
import Derived.Test.YtonphamahnagfaaDoorErr
import Derived.LoopTactic
import Derived.Lib.Walk
namespace Go.Proofs.YtonphamahnagfaaDoor
open Go.ChangeShapes Go.WideShapes Go.ChangeAt Go.RowKit
set_option linter.unusedVariables false

/-- a fault of form at a place -/
def FaultAt (w : World) (B g i : Nat) : Prop := B ≤ g ∧ g < w.heap.size ∧ w.cell? ⟨g, 0, none⟩ = some (.int .i64 i) ∧ w.cell? ⟨g, 1, none⟩ = some (.iface 57 (.int .i64 5))
theorem FaultAt.err {w : World} {B g i : Nat} (h : FaultAt w B g i) : ErrIs w (.iface 51 (.pointer (some ⟨g, 0, none⟩))) 5 i :=
  .inr (.inr ⟨g, rfl, by decide, by decide, h.2.2.1, h.2.2.2⟩)
theorem FaultAt.below {w w1 : World} {B g i : Nat} (h : FaultAt w B g i) (hb : Below w.heap.size w w1) : FaultAt w1 B g i :=
  ⟨h.1, Nat.lt_of_lt_of_le h.2.1 hb.size, (hb.cell (p := ⟨g, _, none⟩) h.2.1).trans h.2.2.1, (hb.cell (p := ⟨g, _, none⟩) h.2.1).trans h.2.2.2⟩

set_option maxHeartbeats 400000 in
theorem errForm_any (i : Nat) (w : World) :
    Calls Tryd.prog 25 #[.int .i64 i] w fun e w' => (∃ g, e = .returned (.iface 51 (.pointer (some ⟨g, 0, none⟩))) ∧ FaultAt w' w.heap.size g i) ∧ Below w.heap.size w w' := by
  have hb : Below w.heap.size w (w.alloc (.cells #[.int .i64 i, .iface 57 (.int .i64 5)] 59)) := (Below.refl _ _).alloc (Nat.le_refl _) _
  go_enter Tryd.func25, Tryd.ntmps25
  go_wp2
  go_ret
  exact ⟨⟨w.heap.size, rfl, Nat.le_refl _, by simp, by simp, by simp⟩, hb⟩

/-- what number answers -/
def NumIs (w w' : World) (e : Ending) : (Nat × Nat) ⊕ Nat → Prop
  | .inl (n, i) => e = .returned (.tuple #[.int .i64 n, .int .i64 i, .nilIface])
  | .inr i => ∃ g, e = .returned (.tuple #[.int .i64 0, .int .i64 0, .iface 51 (.pointer (some ⟨g, 0, none⟩))]) ∧ FaultAt w' w.heap.size g i

theorem numberL_fault {L : List UInt8} {pl j : Nat} (h : numL 0 pl (L.drop pl) = .inr j) : numberL L pl = .inr j := by unfold numberL; rw [h]
theorem numberL_stop {L : List UInt8} {pl m j : Nat} (h : numL 0 pl (L.drop pl) = .inl (m, j)) (hj : ¬ j = pl) : numberL L pl = .inl (m, j) := by unfold numberL; rw [h]; simp [hj]
theorem numberL_none {L : List UInt8} {pl m : Nat} (h : numL 0 pl (L.drop pl) = .inl (m, pl)) : numberL L pl = .inr pl := by unfold numberL; rw [h]; simp

set_option maxRecDepth 100000 in
set_option maxHeartbeats 1000000 in
theorem number_any (s : ByteArray) (pl : Nat) (w : World) (hs : s.size ≤ 140737488355328) (hp : pl ≤ s.size) :
    Calls Tryd.prog 23 #[.string s, .int .i64 pl, .int .i64 250] w fun e w' => NumIs w w' e (numberL s.data.toList pl) ∧ Below w.heap.size w w' := by
  have hsz : s.data.toList.length = s.size := by simp
  have HSZ := Lib.hid hsz
  clear hsz
  go_enter Tryd.func23, Tryd.ntmps23
  go_wp2
  go_loopw [9, 10] (fun n i wr => wr = w ∧ ∃ m j : Nat, n = .int .i64 m ∧ i = .int .i64 j ∧ pl ≤ j ∧ j ≤ s.size ∧ m ≤ 250 ∧ numL 0 pl (s.data.toList.drop pl) = numL m j (s.data.toList.drop j)) (fun _ i _ => s.size - (intOf i).toNat)
  case atStart => exact ⟨rfl, 0, pl, rfl, rfl, by omega, hp, by omega, rfl⟩
  case round =>
    obtain ⟨rfl, m, j, rfl, rfl, hpj, hj, hm, hL⟩ := hrel
    by_cases hjs : j < s.size
    · have hjs' : (j : Int) < s.size := by omega
      have hget := drop_get (L := s.data.toList) (j := j) (by rw [HSZ.out]; exact hjs)
      obtain ⟨c, hc⟩ : ∃ c, s[j] = c := ⟨_, rfl⟩
      have hc2 : s.data.toList[j]'(by rw [HSZ.out]; exact hjs) = c := by rw [← hc]; simp; rfl
      rw [hc2] at hget
      rw [hget, numL_cons] at hL
      have HL := Lib.hid hL
      clear hget hc2 hL
      have hc256 : c.toNat < 256 := UInt8.toNat_lt c
      by_cases h48 : 48 ≤ c.toNat
      · have h48' : (48 : Int) ≤ (c.toNat : Int) := by omega
        by_cases h57 : c.toNat ≤ 57
        · have h57' : (c.toNat : Int) ≤ 57 := by omega
          have HL2 := HL.out
          rw [if_pos ⟨h48, h57⟩] at HL2
          unfold stepN at HL2
          rw [if_pos ⟨h48, h57⟩] at HL2
          have HLL := Lib.hid HL2
          clear HL2 HL
          have hu : IntKind.u8.wrap ((c.toNat : Int) - 48) = (c.toNat : Int) - 48 := by rw [IntKind.wrap_u8]; omega
          by_cases h0 : 10 * m + (c.toNat - 48) = 0
          · have h0' : (10 : Int) * m + ((c.toNat : Int) - 48) = 0 := by omega
            have HLF := HLL.out
            rw [if_neg (by omega)] at HLF
            have HLG := Lib.hid (numberL_fault HLF)
            clear HLF HLL
            have hb : Below wr.heap.size wr (wr.alloc (.cells #[.int .i64 j, .iface 57 (.int .i64 5)] 59)) := (Below.refl _ _).alloc (Nat.le_refl _) _
            go_wp2
            go_ret3
            rw [HLG.out]
            exact ⟨⟨wr.heap.size, rfl, Nat.le_refl _, by simp, by simp, by simp⟩, hb⟩
          · have h0' : ¬ (10 : Int) * m + ((c.toNat : Int) - 48) = 0 := by omega
            by_cases h250 : 10 * m + (c.toNat - 48) ≤ 250
            · have h250' : ¬ (250 : Int) < 10 * m + ((c.toNat : Int) - 48) := by omega
              have HLF := HLL.out
              rw [if_pos ⟨by omega, h250⟩] at HLF
              have HLG := Lib.hid HLF
              clear HLF HLL
              go_wp2
              refine ⟨⟨trivial, 10 * m + (c.toNat - 48), j + 1, by congr 1; omega, by simp, by omega, by omega, h250, HLG.out⟩, by simp [intOf]; omega⟩
            · have h250' : (250 : Int) < 10 * m + ((c.toNat : Int) - 48) := by omega
              have HLF := HLL.out
              rw [if_neg (by omega)] at HLF
              have HLG := Lib.hid (numberL_fault HLF)
              clear HLF HLL
              have hb : Below wr.heap.size wr (wr.alloc (.cells #[.int .i64 j, .iface 57 (.int .i64 5)] 59)) := (Below.refl _ _).alloc (Nat.le_refl _) _
              go_wp2
              go_ret3
              rw [HLG.out]
              exact ⟨⟨wr.heap.size, rfl, Nat.le_refl _, by simp, by simp, by simp⟩, hb⟩
        · have h57' : ¬ (c.toNat : Int) ≤ 57 := by omega
          have HLF := HL.out
          rw [if_neg (by omega)] at HLF
          clear HL
          by_cases hjp : j = pl
          · subst hjp
            have HLG := Lib.hid (numberL_none HLF)
            clear HLF
            have hb : Below wr.heap.size wr (wr.alloc (.cells #[.int .i64 j, .iface 57 (.int .i64 5)] 59)) := (Below.refl _ _).alloc (Nat.le_refl _) _
            go_wp2
            go_ret3
            rw [HLG.out]
            exact ⟨⟨wr.heap.size, rfl, Nat.le_refl _, by simp, by simp, by simp⟩, hb⟩
          · have HLG := Lib.hid (numberL_stop HLF hjp)
            clear HLF
            have hjp' : ((j : Int) == pl) = false := by simp; omega
            go_wp2
            go_ret3
            rw [HLG.out]
            exact ⟨rfl, Below.refl _ _⟩
      · have h48' : ¬ (48 : Int) ≤ (c.toNat : Int) := by omega
        have HLF := HL.out
        rw [if_neg (by omega)] at HLF
        clear HL
        by_cases hjp : j = pl
        · subst hjp
          have HLG := Lib.hid (numberL_none HLF)
          clear HLF
          have hb : Below wr.heap.size wr (wr.alloc (.cells #[.int .i64 j, .iface 57 (.int .i64 5)] 59)) := (Below.refl _ _).alloc (Nat.le_refl _) _
          go_wp2
          go_ret3
          rw [HLG.out]
          exact ⟨⟨wr.heap.size, rfl, Nat.le_refl _, by simp, by simp, by simp⟩, hb⟩
        · have HLG := Lib.hid (numberL_stop HLF hjp)
          clear HLF
          have hjp' : ((j : Int) == pl) = false := by simp; omega
          go_wp2
          go_ret3
          rw [HLG.out]
          exact ⟨rfl, Below.refl _ _⟩
    · have hjs' : ¬ (j : Int) < s.size := by omega
      have HLF := hL
      rw [(List.drop_of_length_le (by rw [HSZ.out]; omega) : s.data.toList.drop j = [])] at HLF
      simp only [numL] at HLF
      clear hL
      by_cases hjp : j = pl
      · subst hjp
        have HLG := Lib.hid (numberL_none HLF)
        clear HLF
        have hb : Below wr.heap.size wr (wr.alloc (.cells #[.int .i64 j, .iface 57 (.int .i64 5)] 59)) := (Below.refl _ _).alloc (Nat.le_refl _) _
        go_wp2
        go_ret3
        rw [HLG.out]
        exact ⟨⟨wr.heap.size, rfl, Nat.le_refl _, by simp, by simp, by simp⟩, hb⟩
      · have HLG := Lib.hid (numberL_stop HLF hjp)
        clear HLF
        have hjp' : ((j : Int) == pl) = false := by simp; omega
        go_wp2
        go_ret3
        rw [HLG.out]
        exact ⟨rfl, Below.refl _ _⟩
end Go.Proofs.YtonphamahnagfaaDoor

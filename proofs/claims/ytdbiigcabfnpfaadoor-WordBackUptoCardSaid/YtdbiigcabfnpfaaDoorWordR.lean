/-
  word.New, (*Reader).Take, At, Left: over any bytes and any width; over nil. No other conditions.
-/
import Derived.Test.YtdbiigcabfnpfaaDoorWordB
namespace Go.Proofs.YtdbiigcabfnpfaaDoor
open Go.ChangeShapes Go.WideShapes Go.ChangeAt Go.RowKit
set_option linter.unusedVariables false

theorem gb_trans {a b c : World} {r : Option Nat} (h : a.grownBy b r) (k : b.grownBy c r) : a.grownBy c r :=
  ⟨k.os.trans h.os, k.tape.trans h.tape, k.output.trans h.output, Nat.le_trans h.size k.size, fun i hi hr => (k.block i (Nat.lt_of_lt_of_le hi h.size) hr).trans (h.block i hi hr)⟩
theorem gb_set {a b : World} {g : Nat} (h : a.grownBy b (some g)) (o : Nat) (u : Value) : a.grownBy (b.setCell ⟨g, o, none⟩ u) (some g) :=
  gb_trans h ⟨rfl, rfl, rfl, by simp [World.setCell], fun i hi hr => Below.heap_setCell _ _ _ _ (fun e => hr (by rw [e]))⟩
theorem gb_alloc {a b : World} {r : Option Nat} (h : a.grownBy b r) (o : Obj) : a.grownBy (b.alloc o) r :=
  gb_trans h (World.grownBy_alloc _ _ _)
theorem gb_drew {a b : World} {r : Option Nat} (h : a.grownBy b r) : a.grownBy b.drew r := ⟨h.os, h.tape, h.output, h.size, h.block⟩
theorem gb_below {a b : World} {r : Option Nat} (h : Below a.heap.size a b) : a.grownBy b r := ⟨h.os, h.tape, h.output, h.size, fun k hk _ => h.block k hk⟩

/-- a reader of the bytes zb, before which 'pl' are: its row, its two cells -/
structure Rdr (w : World) (B g : Nat) (A : Option Addr) (n c : Nat) (zb : List Int) (pl : Nat) : Prop where
  lo : B ≤ g
  lt : g < w.heap.size
  len : zb.length = n
  row : ∀ h o, A = some ⟨h, o, none⟩ → B ≤ h ∧ h ≠ g
  c0 : w.cell? ⟨g, 0, none⟩ = some (.slice A n c)
  c1 : w.cell? ⟨g, 1, none⟩ = some (.int .i64 pl)
  fz : w.frozen? ⟨g, 1, none⟩ = false
  rd : RdN .u8 w A zb
  le : pl ≤ n
  big : n ≤ 140737488355328
theorem Rdr.kept {w w1 : World} {B g n c : Nat} {A : Option Addr} {zb : List Int} {pl : Nat} (h : Rdr w B g A n c zb pl) (hk : ∀ q, B ≤ q → q < w.heap.size → w1.heap[q]? = w.heap[q]?) (hs : w.heap.size ≤ w1.heap.size) : Rdr w1 B g A n c zb pl := by
  have hb := fun o => World.cell?_of_block (w := w) (w' := w1) (a := ⟨g, o, none⟩) (hk g h.lo h.lt)
  refine ⟨h.lo, Nat.lt_of_lt_of_le h.lt hs, h.len, h.row, (hb 0).trans h.c0, (hb 1).trans h.c1, (World.frozen?_of_block (w := w) (a := ⟨g, 1, none⟩) (hk g h.lo h.lt)).trans h.fz, ?_, h.le, h.big⟩
  obtain ⟨q, off, hA, hc⟩ := h.rd
  refine ⟨q, off, fun hn => ⟨(hA hn).1, Nat.lt_of_lt_of_le (hA hn).2 hs⟩, fun i hi => ?_⟩
  have h1 := hA (by omega)
  exact (World.cell?_of_block (w := w) (a := ⟨q, off + i, none⟩) (hk q (h.row _ _ h1.1).1 h1.2)).trans (hc i hi)
theorem Rdr.below {w w1 : World} {B g n c : Nat} {A : Option Addr} {zb : List Int} {pl : Nat} (h : Rdr w B g A n c zb pl) (hb : Below w.heap.size w w1) : Rdr w1 B g A n c zb pl :=
  h.kept (fun q _ hq => hb.block q hq) hb.size
theorem Rdr.drew {w : World} {B g n c : Nat} {A : Option Addr} {zb : List Int} {pl : Nat} (h : Rdr w B g A n c zb pl) : Rdr w.drew B g A n c zb pl := h.below (Below.refl _ _).drew
theorem Rdr.set {w : World} {B g n c : Nat} {A : Option Addr} {zb : List Int} {pl : Nat} (h : Rdr w B g A n c zb pl) (p : Nat) (hp : p ≤ n) : Rdr (w.setCell ⟨g, 1, none⟩ (.int .i64 p)) B g A n c zb p := by
  refine ⟨h.lo, by simpa using h.lt, h.len, h.row, ?_, World.cell?_setCell_same (h := h.c1) .., by simpa using h.fz, ?_, hp, h.big⟩
  · exact (World.cell?_setCell_other (h := by simp) ..).trans h.c0
  · obtain ⟨q, off, hA, hc⟩ := h.rd
    refine ⟨q, off, fun hn => ⟨(hA hn).1, by simpa using (hA hn).2⟩, fun i hi => ?_⟩
    have h1 := (h.row _ _ (hA (by omega)).1).2
    exact (World.cell?_setCell_other (h := by simp) ..).trans (hc i hi)

set_option maxHeartbeats 1000000 in
theorem new_any (A : Option Addr) (n c : Nat) (zs : List Int) (w : World) (hl : zs.length = n) (h : RdN .u8 w A zs) (hm : n ≤ 140737488355328) :
    Calls Tryd.prog 13 #[.slice A n c] w fun e w' => (∃ g A' c', e = .returned (.pointer (some ⟨g, 0, none⟩)) ∧ Rdr w' w.heap.size g A' n c' zs 0) ∧ Below w.heap.size w w' := by
  have HC := Lib.hid (clone_any A n c zs w hl h hm)
  have HH := Lib.hid h
  go_enter Tryd.func13, Tryd.ntmps13
  go_wp2_with fail
  refine HC.out.mono ?_
  rintro e w1 ⟨⟨v1, rfl, hown1⟩, hb1⟩
  obtain ⟨hl1, A1, c1, rfl, hc1, hm1, hR1, hB1⟩ := rdn_of_own hown1
  unfold maxLen at hm1
  have hbA : Below w1.heap.size w1 (w1.alloc (.cells #[.slice A1 n c1, .int .i64 0] 57)) := (Below.refl _ _).alloc (Nat.le_refl _) _
  have hs1 := hb1.size
  go_wp2
  go_ret
  refine ⟨⟨w1.heap.size, A1, c1, rfl, hs1, by simp, hl, fun h o e => ?_, by simp, by simp, by simp, hR1.below hbA, by omega, hm⟩, hb1.trans (hbA.mono hs1)⟩
  have := hB1 h o e
  omega

set_option maxHeartbeats 400000 in
theorem at_any (B g n c : Nat) (A : Option Addr) (zb : List Int) (pl : Nat) (w : World) (h : Rdr w B g A n c zb pl) :
    Calls Tryd.prog 17 #[.pointer (some ⟨g, 0, none⟩)] w fun e w' => e = .returned (.int .i64 pl) ∧ w = w' := by
  have c1 := h.c1
  go_enter Tryd.func17, Tryd.ntmps17
  go_wp2
  go_ret
  exact ⟨rfl, rfl⟩
set_option maxHeartbeats 400000 in
theorem at_nil (w : World) : Calls Tryd.prog 17 #[.pointer none] w fun e w' => e = .returned (.int .i64 0) ∧ w = w' := by
  go_enter Tryd.func17, Tryd.ntmps17
  go_wp2
  go_ret
  exact ⟨rfl, rfl⟩
set_option maxHeartbeats 1000000 in
theorem left_any (B g n c : Nat) (A : Option Addr) (zb : List Int) (pl : Nat) (w : World) (h : Rdr w B g A n c zb pl) :
    Calls Tryd.prog 15 #[.pointer (some ⟨g, 0, none⟩)] w fun e w' => e = .returned (.int .i64 ((n : Int) - pl)) ∧ Below w.heap.size w w' := by
  have c0 := h.c0
  have c1 := h.c1
  have hl := h.le
  have hb := h.big
  clear h
  go_enter Tryd.func15, Tryd.ntmps15
  go_wp2
  go_region
  go_wp2
  go_ret
  exact ⟨by go_num, by go_grown⟩
set_option maxHeartbeats 400000 in
theorem left_nil (w : World) : Calls Tryd.prog 15 #[.pointer none] w fun e w' => e = .returned (.int .i64 0) ∧ w = w' := by
  go_enter Tryd.func15, Tryd.ntmps15
  go_wp2
  go_ret
  exact ⟨rfl, rfl⟩
set_option maxHeartbeats 400000 in
theorem take_nil (width : Int) (w : World) : Calls Tryd.prog 14 #[.pointer none, .int .i64 width] w fun e w' => e = .returned (.tuple #[.int .i64 0, .iface 47 (.int .i64 1)]) ∧ w = w' := by
  go_enter Tryd.func14, Tryd.ntmps14
  go_wp2
  go_ret2
  exact ⟨rfl, rfl⟩
set_option maxHeartbeats 1000000 in
theorem all_nil (A : Option Addr) (n c : Nat) (w : World) : Calls Tryd.prog 18 #[.pointer none, .slice A n c] w fun e w' => e = .returned (.tuple #[.slice none 0 0, .iface 47 (.int .i64 1)]) ∧ Below w.heap.size w w' := by
  go_enter Tryd.func18, Tryd.ntmps18
  go_wp2
  have hb : Below w.heap.size w (((w.alloc (.cells #[.pointer none] 34)).alloc (.cells #[.slice none 0 0] 23)).alloc (.cells #[.iface 47 (.int .i64 1)] 26)) := by go_grown
  exact bodyPost_ret (by simp [results, Tryd.results18, go_sem] <;> rfl) rfl ⟨rfl, hb⟩

theorem bits_or_byte (n b : Int) (hn : 0 ≤ n) (hn2 : n < 16777216) (hb : 0 ≤ b) (hb2 : b < 256) : bits .or .i64 (n * 256) b = 256 * n + b := by
  rw [Int.mul_comm n 256]
  obtain ⟨N, rfl⟩ := Int.eq_ofNat_of_zero_le hn
  obtain ⟨M, rfl⟩ := Int.eq_ofNat_of_zero_le hb
  have hN : N < 16777216 := by omega
  have hM : M < 256 := by omega
  have e0 : (256 * (N : Int)) = ((256 * N : Nat) : Int) := by simp
  rw [e0]
  have o1 : ∀ a : Nat, a < 18446744073709551616 → (BitVec.ofInt 64 (a : Int)).toNat = a := fun a ha => by
    rw [BitVec.ofInt_natCast, BitVec.toNat_ofNat]; exact Nat.mod_eq_of_lt (by omega)
  have e1 := Nat.two_pow_add_eq_or_of_lt (i := 8) (b := M) (by omega) N
  show IntKind.i64.wrap ((BitVec.ofInt 64 ((256 * N : Nat) : Int) ||| BitVec.ofInt 64 (M : Int)).toNat : Int) = _
  rw [BitVec.toNat_or, o1 _ (by omega), o1 _ (by omega), show 256 * N = 2 ^ 8 * N from by omega, ← e1]
  rw [IntKind.wrap_i64]
  omega
end Go.Proofs.YtdbiigcabfnpfaaDoor

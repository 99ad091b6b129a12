/-
  The reader's state; the document's number, word, mode, digits, Split. No conditions beyond those that each theorem states.
-/
import Derived.Test.YtjpjlfjaapfnkaaGreatDoorDMA
import Derived.Test.YtjpjlfjaapfnkaaGreatDoorDMB
import Derived.Test.YtjpjlfjaapfnkaaGreatDoorDMC
import Derived.LoopTactic
import Derived.Deep.AppendLies
import Derived.Lib.Walk
import Derived.Lib.SliceRun
import Derived.Laws.BytesArg
import Derived.Deep.QuietTactic
import Derived.BigQuiet
set_option linter.unusedVariables false
set_option linter.unusedSimpArgs false
namespace Go.Proofs.YtjpjlfjaapfnkaaGreatDoor
open Go.ChangeShapes Go.WideShapes Go.ChangeAt Go.RowKit
def bsA (l : List UInt8) : ByteArray := ⟨l.toArray⟩
theorem bsA_list (l : List UInt8) : (bsA l).data.toList = l := rfl
theorem bsA_of (s : ByteArray) : bsA s.data.toList = s := by unfold bsA; cases s; simp
def Rdr (W : World) (rb base : Nat) (ws : List (List UInt8)) (bad : Bool) : Prop :=
 ∃ (A : Option Addr) (cap g off : Nat), W.cell? ⟨rb, 0, none⟩ = some (.slice A ws.length cap) ∧ W.cell? ⟨rb, 1, none⟩ = some (.bool bad) ∧ W.frozen? ⟨rb, 0, none⟩ = false ∧ W.frozen? ⟨rb, 1, none⟩ = false ∧ ws.length ≤ cap ∧ g ≠ rb ∧ (g < base ∧ rb < base ∧ base ≤ W.heap.size) ∧ (0 < ws.length → A = some ⟨g, off, none⟩) ∧ ∀ i, i < ws.length → W.cell? ⟨g, off + i, none⟩ = some (.string (bsA (ws.getD i [])))
theorem Rdr.lt {W : World} {rb base : Nat} {ws : List (List UInt8)} {bad : Bool} (h : Rdr W rb base ws bad) : rb < base ∧ base ≤ W.heap.size := by
 obtain ⟨A, cap, g, off, _, _, _, _, _, _, hb, _⟩ := h
 exact hb.2
theorem Rdr.below' {W W' : World} {rb base : Nat} {ws : List (List UInt8)} {bad : Bool} (h : Rdr W rb base ws bad) (hb : Below base W W') : Rdr W' rb base ws bad := by
 obtain ⟨A, cap, g, off, h0, h1, f0, f1, hc, hn, ⟨hg, hr, hB⟩, hA, hs⟩ := h
 exact ⟨A, cap, g, off, (hb.cell (p := ⟨rb, 0, none⟩) hr).trans h0, (hb.cell (p := ⟨rb, 1, none⟩) hr).trans h1, (hb.frozen (p := ⟨rb, 0, none⟩) hr).trans f0, (hb.frozen (p := ⟨rb, 1, none⟩) hr).trans f1, hc, hn, ⟨hg, hr, Nat.le_trans hB hb.size⟩, hA, fun i hi => (hb.cell (p := ⟨g, off + i, none⟩) hg).trans (hs i hi)⟩
theorem Rdr.below {W W' : World} {rb base : Nat} {ws : List (List UInt8)} {bad : Bool} (h : Rdr W rb base ws bad) (hb : Below W.heap.size W W') : Rdr W' rb base ws bad := h.below' (hb.mono h.lt.2)
theorem Rdr.mark {W : World} {rb base : Nat} {ws : List (List UInt8)} {bad : Bool} (h : Rdr W rb base ws bad) (b' : Bool) : Rdr (W.setCell ⟨rb, 1, none⟩ (.bool b')) rb base ws b' := by
 obtain ⟨A, cap, g, off, h0, h1, f0, f1, hc, hn, hg, hA, hs⟩ := h
 refine ⟨A, cap, g, off, ?_, ?_, ?_, ?_, hc, hn, by simpa using hg, hA, fun i hi => ?_⟩
 ·rw [World.cell?_setCell_other _ _ _ _ (by simp)]; exact h0
 ·exact World.cell?_setCell_same _ _ _ h1
 ·simpa using f0
 ·simpa using f1
 ·rw [World.cell?_setCell_other _ _ _ _ (by simp)]; exact hs i hi
theorem gb_mark {W : World} {rb : Nat} (b' : Bool) : W.grownBy (W.setCell ⟨rb, 1, none⟩ (.bool b')) (some rb) := gb_set (World.grownBy.refl W _) 1 _
theorem gb_new {a b : World} {r : Option Nat} (h : a.grownBy b r) {k o : Nat} {u : Value} (hk : a.heap.size ≤ k) : a.grownBy (b.setCell ⟨k, o, none⟩ u) r :=
 ⟨h.os, h.tape, h.output, by simpa using h.size, fun i hi hr => (Below.heap_setCell _ _ _ _ (show i ≠ k by omega)).trans (h.block i hi hr)⟩
theorem gb_cell {a b : World} {r k o : Nat} (h : a.grownBy b (some r)) (hk : k < a.heap.size) (hn : k ≠ r) : b.cell? ⟨k, o, none⟩ = a.cell? ⟨k, o, none⟩ ∧ b.frozen? ⟨k, o, none⟩ = a.frozen? ⟨k, o, none⟩ := by
 have hb := h.block k hk (by simpa using hn)
 exact ⟨World.cell?_of_block (a := ⟨k, o, none⟩) hb, World.frozen?_of_block (a := ⟨k, o, none⟩) hb⟩
set_option maxHeartbeats 1000000 in
theorem next_none (rb base : Nat) (bad : Bool) (W : World) (h : Rdr W rb base [] bad) :
 Calls Tryz.prog 73 #[.pointer (some ⟨rb, 0, none⟩)] W fun e w' => e = .returned (.string (bsA [])) ∧ w' = W.setCell ⟨rb, 1, none⟩ (.bool true) := by
 obtain ⟨A, cap, g, off, h0, h1, f0, f1, hc, hn, hg, hA, hs⟩ := h
 have h0 : W.cell? ⟨rb, 0, none⟩ = some (.slice A 0 cap) := h0
 clear hs hA
 go_enter Tryz.func73, Tryz.ntmps73
 go_wp2
 go_ret
 exact ⟨rfl, rfl⟩
set_option maxHeartbeats 1000000 in
theorem next_some (rb base : Nat) (x : List UInt8) (r : List (List UInt8)) (bad : Bool) (W : World) (h : Rdr W rb base (x :: r) bad) :
 Calls Tryz.prog 73 #[.pointer (some ⟨rb, 0, none⟩)] W fun e w' => e = .returned (.string (bsA x)) ∧ Rdr w' rb base r bad ∧ W.grownBy w' (some rb) := by
 obtain ⟨A, cap, g, off, h0, h1, f0, f1, hc, hn, hg, hA, hs⟩ := h
 obtain rfl := hA (by simp)
 have hx : W.cell? ⟨g, off, none⟩ = some (.string (bsA x)) := hs 0 (by simp)
 have HS := Lib.hid (show ∀ i, i < r.length → W.cell? ⟨g, off + 1 + i, none⟩ = some (.string (bsA (r.getD i []))) from fun i hi => by
  have := hs (i + 1) (by simp; omega)
  rw [show off + (i + 1) = off + 1 + i by omega] at this
  simpa using this)
 simp only [List.length_cons] at h0 hc
 clear hs hA
 by_cases h1c : cap = 1
 ·subst h1c
  have hr : r = [] := List.eq_nil_of_length_eq_zero (by omega)
  subst hr
  clear HS
  have h0 : W.cell? ⟨rb, 0, none⟩ = some (.slice (some ⟨g, off, none⟩) 1 1) := h0
  go_enter Tryz.func73, Tryz.ntmps73
  go_wp2
  go_ret
  refine ⟨rfl, ?_, gb_set (World.grownBy.refl W _) 0 _⟩
  refine ⟨some ⟨g, off, none⟩, 0, g, off, World.cell?_setCell_same _ _ _ h0, ?_, by simpa using f0, by simpa using f1, by simp, hn, by simpa using hg, fun h => absurd h (by simp), fun i hi => absurd hi (by simp)⟩
  rw [World.cell?_setCell_other _ _ _ _ (by simp)]; exact h1
 ·obtain ⟨n, hn'⟩ : ∃ n, r.length = n := ⟨_, rfl⟩
  rw [hn'] at h0 hc
  have HN := Lib.hid hn'
  clear hn'
  obtain ⟨c, rfl⟩ : ∃ c, cap = c + 2 := ⟨cap - 2, by omega⟩
  go_enter Tryz.func73, Tryz.ntmps73
  go_wp2
  go_ret
  refine ⟨rfl, ?_, gb_set (World.grownBy.refl W _) 0 _⟩
  refine ⟨some ⟨g, off + 1, none⟩, c + 1, g, off + 1, (World.cell?_setCell_same _ _ _ h0).trans (by rw [HN.out]), ?_, by simpa using f0, by simpa using f1, by rw [HN.out]; omega, hn, by simpa using hg, fun _ => rfl, fun i hi => ?_⟩
  ·rw [World.cell?_setCell_other _ _ _ _ (by simp)]; exact h1
  ·rw [World.cell?_setCell_other _ _ _ _ (by simp)]; exact HS.out i hi
theorem next_any (rb base : Nat) (ws : List (List UInt8)) (bad : Bool) (W : World) (h : Rdr W rb base ws bad) :
 Calls Tryz.prog 73 #[.pointer (some ⟨rb, 0, none⟩)] W fun e w' => e = .returned (.string (bsA (ws.headD []))) ∧ Rdr w' rb base ws.tail (bad || ws.isEmpty) ∧ W.grownBy w' (some rb) := by
 cases ws with
 | nil => exact (next_none rb base bad W h).mono fun e w' ⟨he, hw⟩ => ⟨he, by rw [hw]; simpa using h.mark true, by rw [hw]; exact gb_mark true⟩
 | cons x r => exact (next_some rb base x r bad W h).mono fun e w' ⟨he, hw, hg⟩ => ⟨he, by simpa using hw, hg⟩
end Go.Proofs.YtjpjlfjaapfnkaaGreatDoor
namespace Go.Proofs.YtjpjlfjaapfnkaaGreatDoor
open Go.ChangeShapes Go.WideShapes Go.ChangeAt Go.RowKit
def RdS (W : World) (A : Option Addr) (ws : List (List UInt8)) : Prop :=
 ∃ g off, (0 < ws.length → A = some ⟨g, off, none⟩ ∧ g < W.heap.size) ∧ ∀ i, i < ws.length → W.cell? ⟨g, off + i, none⟩ = some (.string (bsA (ws.getD i [])))
theorem RdS.below {W W' : World} {A : Option Addr} {ws : List (List UInt8)} (h : RdS W A ws) (hb : Below W.heap.size W W') : RdS W' A ws := by
 obtain ⟨g, off, hA, hs⟩ := h
 refine ⟨g, off, fun h => ⟨(hA h).1, Nat.lt_of_lt_of_le (hA h).2 hb.size⟩, fun i hi => ?_⟩
 exact (hb.cell (p := ⟨g, off + i, none⟩) (hA (by omega)).2).trans (hs i hi)
def strs (ws : List (List UInt8)) : Array Value := (ws.map fun l => Value.string (bsA l)).toArray
theorem rds_block {W : World} {g : Nat} {T : TypeId} {fr : Nat × Nat} {ws : List (List UInt8)} (h : W.heap[g]? = some (.cells (strs ws) T fr)) : RdS W (some ⟨g, 0, none⟩) ws := by
 refine ⟨g, 0, fun _ => ⟨rfl, (Array.getElem?_eq_some_iff.1 h).1⟩, fun i hi => ?_⟩
 have := World.news_of_block h i (.string (bsA (ws.getD i []))) (by
  unfold strs
  rw [List.getElem?_map, List.getD_eq_getElem?_getD, List.getElem?_eq_getElem hi]; rfl)
 rw [add0] at this
 simpa using this
def modesL : List (List UInt8) := [[], [73, 83], [73, 88], [83], [88]]
theorem rmodes_any (W : World) : Calls Tryz.prog 37 #[] W fun e w' => e = .returned (.slice (some ⟨W.heap.size, 0, none⟩) 5 5) ∧ w' = W.alloc (.cells #[.string ⟨#[]⟩, .string ⟨#[73, 83]⟩, .string ⟨#[73, 88]⟩, .string ⟨#[83]⟩, .string ⟨#[88]⟩] 9) := by
 go_enter Tryz.func37, Tryz.ntmps37
 go_wp2
 go_ret
 exact ⟨rfl, rfl⟩
theorem modes_any (W : World) : Calls Tryz.prog 32 #[] W fun e w' => e = .returned (.slice (some ⟨W.heap.size, 0, none⟩) 5 5) ∧ w' = W.alloc (.cells #[.string ⟨#[]⟩, .string ⟨#[73, 83]⟩, .string ⟨#[73, 88]⟩, .string ⟨#[83]⟩, .string ⟨#[88]⟩] 9) := by
 go_enter Tryz.func32, Tryz.ntmps32
 go_wp2
 go_ret
 exact ⟨rfl, rfl⟩
theorem rnames_any (W : World) : Calls Tryz.prog 34 #[] W fun e w' => e = .returned (.slice (some ⟨W.heap.size, 0, none⟩) 10 10) ∧ w' = W.alloc (.cells #[.string ⟨#[115, 107, 105, 112]⟩, .string ⟨#[116, 105, 99, 107]⟩, .string ⟨#[98, 101, 103, 105, 110]⟩, .string ⟨#[108, 111, 99, 107]⟩, .string ⟨#[99, 111, 109, 109, 105, 116]⟩, .string ⟨#[97, 98, 111, 114, 116]⟩, .string ⟨#[99, 114, 97, 115, 104]⟩, .string ⟨#[100, 101, 108, 105, 118, 101, 114]⟩, .string ⟨#[100, 114, 111, 112]⟩, .string ⟨#[116, 119, 105, 99, 101]⟩] 9) := by
 go_enter Tryz.func34, Tryz.ntmps34
 go_wp2
 go_ret
 exact ⟨rfl, rfl⟩
theorem names_any (W : World) : Calls Tryz.prog 28 #[] W fun e w' => e = .returned (.slice (some ⟨W.heap.size, 0, none⟩) 10 10) ∧ w' = W.alloc (.cells #[.string ⟨#[115, 107, 105, 112]⟩, .string ⟨#[116, 105, 99, 107]⟩, .string ⟨#[98, 101, 103, 105, 110]⟩, .string ⟨#[108, 111, 99, 107]⟩, .string ⟨#[99, 111, 109, 109, 105, 116]⟩, .string ⟨#[97, 98, 111, 114, 116]⟩, .string ⟨#[99, 114, 97, 115, 104]⟩, .string ⟨#[100, 101, 108, 105, 118, 101, 114]⟩, .string ⟨#[100, 114, 111, 112]⟩, .string ⟨#[116, 119, 105, 99, 101]⟩] 9) := by
 go_enter Tryz.func28, Tryz.ntmps28
 go_wp2
 go_ret
 exact ⟨rfl, rfl⟩
theorem rmodes_at (W : World) : Calls Tryz.prog 37 #[] W fun e w' => e = .returned (.slice (some ⟨W.heap.size, 0, none⟩) 5 5) ∧ (∀ i, i < 5 → w'.cell? ⟨W.heap.size, i, none⟩ = some (.string (bsA (modeL i)))) ∧ Below W.heap.size W w' := by
 refine (rmodes_any W).mono ?_
 rintro e w' ⟨rfl, rfl⟩
 refine ⟨rfl, fun i hi => ?_, (Below.refl _ _).alloc (Nat.le_refl _) _⟩
 match i with
 | 0 => simp; rfl
 | 1 => simp; rfl
 | 2 => simp; rfl
 | 3 => simp; rfl
 | 4 => simp; rfl
 | i + 5 => omega
theorem modes_at (W : World) : Calls Tryz.prog 32 #[] W fun e w' => e = .returned (.slice (some ⟨W.heap.size, 0, none⟩) 5 5) ∧ (∀ i, i < 5 → w'.cell? ⟨W.heap.size, i, none⟩ = some (.string (bsA (modeL i)))) ∧ Below W.heap.size W w' := by
 refine (modes_any W).mono ?_
 rintro e w' ⟨rfl, rfl⟩
 refine ⟨rfl, fun i hi => ?_, (Below.refl _ _).alloc (Nat.le_refl _) _⟩
 match i with
 | 0 => simp; rfl
 | 1 => simp; rfl
 | 2 => simp; rfl
 | 3 => simp; rfl
 | 4 => simp; rfl
 | i + 5 => omega
theorem rnames_at (W : World) : Calls Tryz.prog 34 #[] W fun e w' => e = .returned (.slice (some ⟨W.heap.size, 0, none⟩) 10 10) ∧ (∀ i, i < 10 → w'.cell? ⟨W.heap.size, i, none⟩ = some (.string (bsA (entName i)))) ∧ Below W.heap.size W w' := by
 refine (rnames_any W).mono ?_
 rintro e w' ⟨rfl, rfl⟩
 refine ⟨rfl, fun i hi => ?_, (Below.refl _ _).alloc (Nat.le_refl _) _⟩
 match i with
 | 0 => simp; rfl
 | 1 => simp; rfl
 | 2 => simp; rfl
 | 3 => simp; rfl
 | 4 => simp; rfl
 | 5 => simp; rfl
 | 6 => simp; rfl
 | 7 => simp; rfl
 | 8 => simp; rfl
 | 9 => simp; rfl
 | i + 10 => omega
theorem names_at (W : World) : Calls Tryz.prog 28 #[] W fun e w' => e = .returned (.slice (some ⟨W.heap.size, 0, none⟩) 10 10) ∧ (∀ i, i < 10 → w'.cell? ⟨W.heap.size, i, none⟩ = some (.string (bsA (entName i)))) ∧ Below W.heap.size W w' := by
 refine (names_any W).mono ?_
 rintro e w' ⟨rfl, rfl⟩
 refine ⟨rfl, fun i hi => ?_, (Below.refl _ _).alloc (Nat.le_refl _) _⟩
 match i with
 | 0 => simp; rfl
 | 1 => simp; rfl
 | 2 => simp; rfl
 | 3 => simp; rfl
 | 4 => simp; rfl
 | 5 => simp; rfl
 | 6 => simp; rfl
 | 7 => simp; rfl
 | 8 => simp; rfl
 | 9 => simp; rfl
 | i + 10 => omega
theorem word_any (A : Option Addr) (n c i : Nat) (ws : List (List UInt8)) (W : World) (h : RdS W A ws) (hl : ws.length = n) (hn : n ≤ 100000000000000) (hi : i ≤ 10) :
 Calls Tryz.prog 45 #[.slice A n c, .int .i64 i] W fun e w' => e = .returned (.string (bsA (wordR ws i))) ∧ W = w' := by
 obtain ⟨g, off, hA, hs⟩ := h
 by_cases hin : i < n
 ·obtain ⟨rfl, hg⟩ := hA (by omega)
  have hc := hs i (by omega)
  have hin' : (i : Int) < n := by omega
  have HL := Lib.hid hl
  clear hA hs hl
  go_enter Tryz.func45, Tryz.ntmps45
  go_wp2
  go_ret
  exact ⟨rfl, rfl⟩
 ·have hin' : ¬ (i : Int) < n := by omega
  have HL := Lib.hid (show wordR ws i = [] from by unfold wordR; rw [List.getD_eq_getElem?_getD, List.getElem?_eq_none (by omega)]; rfl)
  clear hA hs hl
  go_enter Tryz.func45, Tryz.ntmps45
  go_wp2
  go_ret
  exact ⟨by rw [HL.out]; rfl, rfl⟩
theorem numT_len {s : List UInt8} (h : s.length < 1 ∨ 8 < s.length ∨ (1 < s.length ∧ s.head? = some 48)) : numR s = -1 := by
 unfold numR numT; rw [if_pos h]
theorem numT_val {s : List UInt8} (h : ¬ (s.length < 1 ∨ 8 < s.length ∨ (1 < s.length ∧ s.head? = some 48))) (hd : s.all isD = true) : numR s = (valL 0 s : Nat) := by
 unfold numR numT; rw [if_neg h, if_pos hd]
theorem numT_dig {s : List UInt8} (hd : ¬ s.all isD = true) : numR s = -1 := by
 unfold numR numT
 split
 ·rename_i n hn
  split at hn
  ·cases hn
  ·cases hn
 ·rfl
theorem reti' {a b : Int} (h : a = b) : Ending.returned (.int .i64 a) = .returned (.int .i64 b) := by rw [h]
theorem take_snoc (s : ByteArray) (k : Nat) (h : k < s.size) : s.data.toList.take (k + 1) = s.data.toList.take k ++ [s[k]] := by
 rw [List.take_succ_eq_append_getElem (by exact h)]; rfl
set_option maxHeartbeats 1000000 in
theorem rnum_any (s : ByteArray) (w : World) (hs : s.size ≤ maxLen) :
 Calls Tryz.prog 44 #[.string s] w fun e w' => e = .returned (.int .i64 (numR s.data.toList)) ∧ w = w' := by
 unfold maxLen at hs
 have hsz : s.data.toList.length = s.size := rfl
 by_cases h1 : s.size < 1
 ·have HN := Lib.hid (numT_len (s := s.data.toList) (.inl (by omega)))
  have h1' : (s.size : Int) < 1 := by omega
  clear hsz
  go_enter Tryz.func44, Tryz.ntmps44
  go_wp2
  go_ret
  exact ⟨reti' HN.out.symm, rfl⟩
 by_cases h8 : 8 < s.size
 ·have HN := Lib.hid (numT_len (s := s.data.toList) (.inr (.inl (by omega))))
  have h1' : ¬ (s.size : Int) < 1 := by omega
  have h8' : 8 < (s.size : Int) := by omega
  clear hsz
  go_enter Tryz.func44, Tryz.ntmps44
  go_wp2
  go_ret
  exact ⟨reti' HN.out.symm, rfl⟩
 have h1' : ¬ (s.size : Int) < 1 := by omega
 have h8' : ¬ 8 < (s.size : Int) := by omega
 have h0s : 0 < s.size := by omega
 have hhead : s.data.toList.head? = some s[0] := by
  rw [List.head?_eq_getElem?, List.getElem?_eq_getElem (by rw [hsz]; exact h0s)]; rfl
 by_cases hz : 1 < s.size ∧ s[0] = 48
 ·have HN := Lib.hid (numT_len (s := s.data.toList) (.inr (.inr ⟨by omega, by rw [hhead, hz.2]⟩)))
  have hg : 1 < (s.size : Int) := by omega
  have hz2 : ((s[0].toNat : Int) == 48) = true := by rw [hz.2]; rfl
  clear hsz hhead hz
  go_enter Tryz.func44, Tryz.ntmps44
  go_wp2
  go_ret
  exact ⟨reti' HN.out.symm, rfl⟩
 have HNO := Lib.hid (show ¬ (s.data.toList.length < 1 ∨ 8 < s.data.toList.length ∨ (1 < s.data.toList.length ∧ s.data.toList.head? = some 48)) from by
  rintro (q | q | ⟨q, r⟩)
  ·omega
  ·omega
  ·rw [hhead] at r; exact hz ⟨by omega, Option.some.inj r⟩)
 have hz3 : (1 < (s.size : Int)) → ((s[0].toNat : Int) == 48) = false := fun q => by
  have : ¬ s[0] = 48 := fun e => hz ⟨by omega, e⟩
  simp only [beq_eq_false_iff_ne, ne_eq]
  intro e
  exact this (UInt8.toNat_inj.1 (by show s[0].toNat = 48; omega))
 clear hsz hhead hz
 have HDIG := Lib.hid (fun (j : Nat) (hj : j < s.size) (h : ¬ isD s[j] = true) => numT_dig (s := s.data.toList) (fun q => h (List.all_eq_true.1 q _ (by
  have : s.data.toList[j]? = some s[j] := by rw [List.getElem?_eq_getElem (by exact hj)]; rfl
  exact List.mem_of_getElem? this))))
 by_cases hg1 : 1 < (s.size : Int)
 ·have hz4 := hz3 hg1
  clear hz3
  go_enter Tryz.func44, Tryz.ntmps44
  go_wp2
  go_loop [3, 4] (fun n i => ∃ k : Nat, k ≤ s.size ∧ i = .int .i64 k ∧ n = .int .i64 (valL 0 (s.data.toList.take k) : Nat) ∧ (s.data.toList.take k).all isD = true) (fun _ i => s.size - (intOf i).toNat)
  case atStart => exact ⟨0, Nat.zero_le _, rfl, rfl, rfl⟩
  case round =>
   obtain ⟨k, hk, rfl, rfl, had⟩ := hrel
   have HAD := Lib.hid had
   have hvl := val_lt _ had
   have hl : (s.data.toList.take k).length ≤ k := List.length_take_le _ _
   have hpw := Nat.pow_le_pow_right (n := 10) (by decide) hl
   have hv7 : k < s.size → valL 0 (s.data.toList.take k) < 10000000 := fun q => by
    have := Nat.pow_le_pow_right (n := 10) (by decide) (show k ≤ 7 by omega)
    have e7 : (10 : Nat) ^ 7 = 10000000 := by decide
    omega
   obtain ⟨V, hV⟩ : ∃ V, valL 0 (s.data.toList.take k) = V := ⟨_, rfl⟩
   rw [hV] at hv7 hvl ⊢
   have HV := Lib.hid hV
   clear hV had hl hpw hvl
   by_cases hlt : k < s.size
   ·have hlt' : (k : Int) < s.size := by omega
    have hv7' : (V : Int) < 10000000 := by have := hv7 hlt; omega
    have hts := take_snoc s k hlt
    by_cases hd : isD s[k] = true
    ·have hdd := isD_iff.1 hd
     have q1 : ¬ (s[k].toNat : Int) < 48 := by omega
     have q2 : ¬ 57 < (s[k].toNat : Int) := by omega
     have HS := Lib.hid (show valL 0 (s.data.toList.take (k + 1)) = 10 * V + (s[k].toNat - 48) from by rw [hts, val_snoc, HV.out])
     have HA := Lib.hid (show (s.data.toList.take (k + 1)).all isD = true from by rw [hts, List.all_append, HAD.out]; simp [hd])
     clear hts hd hv7
     go_wp2
     go_round
     case rel => exact ⟨k + 1, by omega, by go_num, by rw [HS.out]; go_num, HA.out⟩
     case measure => simp [intOf]; omega
    ·have HR := Lib.hid (HDIG.out k hlt hd)
     by_cases q1 : (s[k].toNat : Int) < 48
     ·clear hts hd hv7
      go_wp2
      go_ret
      exact ⟨reti' HR.out.symm, rfl⟩
     ·have q2 : 57 < (s[k].toNat : Int) := by
       rw [isD_iff] at hd; omega
      clear hts hd hv7
      go_wp2
      go_ret
      exact ⟨reti' HR.out.symm, rfl⟩
   ·have hks : k = s.size := by omega
    subst hks
    have HR := Lib.hid (numT_val HNO.out (show s.data.toList.all isD = true from by have := HAD.out; rwa [List.take_of_length_le (show s.data.toList.length ≤ s.size from Nat.le_refl _)] at this))
    have HW := Lib.hid (show valL 0 s.data.toList = V from by have := HV.out; rwa [List.take_of_length_le (show s.data.toList.length ≤ s.size from Nat.le_refl _)] at this)
    clear hv7
    go_wp2
    go_ret
    exact ⟨reti' (by rw [HR.out, HW.out]), rfl⟩
 ·clear hz3
  go_enter Tryz.func44, Tryz.ntmps44
  go_wp2
  go_loop [3, 4] (fun n i => ∃ k : Nat, k ≤ s.size ∧ i = .int .i64 k ∧ n = .int .i64 (valL 0 (s.data.toList.take k) : Nat) ∧ (s.data.toList.take k).all isD = true) (fun _ i => s.size - (intOf i).toNat)
  case atStart => exact ⟨0, Nat.zero_le _, rfl, rfl, rfl⟩
  case round =>
   obtain ⟨k, hk, rfl, rfl, had⟩ := hrel
   have HAD := Lib.hid had
   have hvl := val_lt _ had
   have hl : (s.data.toList.take k).length ≤ k := List.length_take_le _ _
   have hpw := Nat.pow_le_pow_right (n := 10) (by decide) hl
   have hv7 : k < s.size → valL 0 (s.data.toList.take k) < 10000000 := fun q => by
    have := Nat.pow_le_pow_right (n := 10) (by decide) (show k ≤ 7 by omega)
    have e7 : (10 : Nat) ^ 7 = 10000000 := by decide
    omega
   obtain ⟨V, hV⟩ : ∃ V, valL 0 (s.data.toList.take k) = V := ⟨_, rfl⟩
   rw [hV] at hv7 hvl ⊢
   have HV := Lib.hid hV
   clear hV had hl hpw hvl
   by_cases hlt : k < s.size
   ·have hlt' : (k : Int) < s.size := by omega
    have hv7' : (V : Int) < 10000000 := by have := hv7 hlt; omega
    have hts := take_snoc s k hlt
    by_cases hd : isD s[k] = true
    ·have hdd := isD_iff.1 hd
     have q1 : ¬ (s[k].toNat : Int) < 48 := by omega
     have q2 : ¬ 57 < (s[k].toNat : Int) := by omega
     have HS := Lib.hid (show valL 0 (s.data.toList.take (k + 1)) = 10 * V + (s[k].toNat - 48) from by rw [hts, val_snoc, HV.out])
     have HA := Lib.hid (show (s.data.toList.take (k + 1)).all isD = true from by rw [hts, List.all_append, HAD.out]; simp [hd])
     clear hts hd hv7
     go_wp2
     go_round
     case rel => exact ⟨k + 1, by omega, by go_num, by rw [HS.out]; go_num, HA.out⟩
     case measure => simp [intOf]; omega
    ·have HR := Lib.hid (HDIG.out k hlt hd)
     by_cases q1 : (s[k].toNat : Int) < 48
     ·clear hts hd hv7
      go_wp2
      go_ret
      exact ⟨reti' HR.out.symm, rfl⟩
     ·have q2 : 57 < (s[k].toNat : Int) := by
       rw [isD_iff] at hd; omega
      clear hts hd hv7
      go_wp2
      go_ret
      exact ⟨reti' HR.out.symm, rfl⟩
   ·have hks : k = s.size := by omega
    subst hks
    have HR := Lib.hid (numT_val HNO.out (show s.data.toList.all isD = true from by have := HAD.out; rwa [List.take_of_length_le (show s.data.toList.length ≤ s.size from Nat.le_refl _)] at this))
    have HW := Lib.hid (show valL 0 s.data.toList = V from by have := HV.out; rwa [List.take_of_length_le (show s.data.toList.length ≤ s.size from Nat.le_refl _)] at this)
    clear hv7
    go_wp2
    go_ret
    exact ⟨reti' (by rw [HR.out, HW.out]), rfl⟩
end Go.Proofs.YtjpjlfjaapfnkaaGreatDoor
namespace Go.Proofs.YtjpjlfjaapfnkaaGreatDoor
open Go.ChangeShapes Go.WideShapes Go.ChangeAt Go.RowKit
theorem bs_size (l : List UInt8) : (bsA l).size = l.length := by show l.toArray.size = _; simp
def decB (n : Nat) : ByteArray := bsA (decL n)
theorem decB_size {n : Nat} (h : n ≤ 99999999) : (decB n).size ≤ 8 := by
 have := dec_len (n := n) (k := 8) (by have e8 : (10 : Nat) ^ 8 = 100000000 := by decide
                                       omega) (by decide)
 show (decL n).toArray.size ≤ 8
 simpa using this
theorem decB_small {n : Nat} (h : n < 10) : decB n = ⟨#[dg n]⟩ := by unfold decB bsA; rw [dd, if_pos h]; rfl
theorem bs_app (a b : List UInt8) : bsA a ++ bsA b = bsA (a ++ b) := by
 unfold bsA; apply ByteArray.ext; simp
theorem decB_more {n : Nat} (h : 10 ≤ n) : decB (n / 10) ++ ⟨#[dg (n % 10)]⟩ = decB n := by
 have e : (⟨#[dg (n % 10)]⟩ : ByteArray) = bsA [dg (n % 10)] := rfl
 rw [e]
 unfold decB
 rw [bs_app, dd n, if_neg (by omega)]; rfl
theorem decB_digs {n : Nat} (h : n < 10) : digs n = decB n := by rw [digs_small h, decB_small h]
set_option maxRecDepth 100000 in
set_option maxHeartbeats 300000 in
theorem dec_step (n : Nat) (w : World) (h : 10 ≤ n) (h2 : n ≤ 99999999) (HC : ∀ w, Calls Tryz.prog 72 #[.int .i64 (n / 10 : Nat)] w fun e w' => e = .returned (.string (decB (n / 10))) ∧ Below w.heap.size w w') :
 Calls Tryz.prog 72 #[.int .i64 n] w fun e w' => e = .returned (.string (decB n)) ∧ Below w.heap.size w w' := by
 have h' : ¬ (n : Int) < 10 := by omega
 have H := Lib.hid HC
 have hda := decB_more h
 rw [← str_one (n % 10)] at hda
 have hsz := decB_size (n := n / 10) (by omega)
 have hsz2 : (strOfNums [(48 + ((n % 10 : Nat) : Int))]).size = 1 := by rw [str_one]; rfl
 have hq : IntKind.i64.wrap ((n : Int) / 10) = ((n / 10 : Nat) : Int) := by rw [IntKind.wrap_i64]; omega
 have hr : (n : Int).tmod 10 = ((n % 10 : Nat) : Int) := by rw [Int.tmod_eq_emod_of_nonneg (by omega)]; omega
 have hd : n % 10 < 10 := Nat.mod_lt _ (by omega)
 have HDA := Lib.hid hda
 clear HC hda
 generalize n / 10 = q at *
 generalize n % 10 = d at *
 have hs : IntKind.i64.wrap (48 + (d : Int)) = 48 + d := by rw [IntKind.wrap_i64]; omega
 have hu : IntKind.u8.wrap (48 + (d : Int)) = 48 + d := by rw [IntKind.wrap_u8]; omega
 generalize hST : strOfNums [(48 + (d : Int))] = ST at *
 have hns : ¬ 9223372036854775807 < (decB q).size + ST.size := by omega
 have hda := HDA.out
 clear hsz hsz2
 go_enter Tryz.func72, Tryz.ntmps72
 go_wp2
 refine wp_region_N (S := (fun _ => True)) (fun i => true) (by kernel_rfl) ?_ (fun hHeld => ?_)
 ·(try dsimp only)
  try trivial
 refine tk (i := 0) (v := ?_) rfl (by kernel_rfl) (fun _ _ _ h => h) (Or.inl ⟨by first | kernel_rfl | rfl, ?_⟩) (by assumption) ?_
 rotate_left
 focus intro w hSw; (try dsimp only at hSw); go_simp; try with_reducible rfl
 try (unfold Act.put; dsimp only)
 refine tk (i := 1) (v := ?_) rfl (by kernel_rfl) (fun _ _ _ h => h) (Or.inl ⟨by first | kernel_rfl | rfl, ?_⟩) (by assumption) ?_
 rotate_left
 focus intro w hSw; (try dsimp only at hSw); go_simp; try with_reducible rfl
 try (unfold Act.put; dsimp only)
 refine tk (i := 3) (v := ?_) rfl (by kernel_rfl) (fun _ _ _ h => h) (Or.inl ⟨by first | kernel_rfl | rfl, ?_⟩) (by assumption) ?_
 rotate_left
 focus intro w hSw; (try dsimp only at hSw); go_simp; try with_reducible rfl
 try (unfold Act.put; dsimp only)
 refine tk (i := 4) (v := ?_) rfl (by kernel_rfl) (fun _ _ _ h => h) (Or.inl ⟨by first | kernel_rfl | rfl, ?_⟩) (by assumption) ?_
 rotate_left
 focus intro w hSw; (try dsimp only at hSw); go_simp; try with_reducible rfl
 try (unfold Act.put; dsimp only)
 refine tk (i := 5) (v := ?_) rfl (by kernel_rfl) (fun _ _ _ h => h) (Or.inl ⟨by first | kernel_rfl | rfl, ?_⟩) (by assumption) ?_
 rotate_left
 focus intro w hSw; (try dsimp only at hSw); go_simp; try with_reducible rfl
 try (unfold Act.put; dsimp only)
 refine tk (i := 6) (v := ?_) rfl (by kernel_rfl) (fun _ _ _ h => h) (Or.inl ⟨by first | kernel_rfl | rfl, ?_⟩) (by assumption) ?_
 rotate_left
 focus intro w hSw; (try dsimp only at hSw); go_simp; try with_reducible rfl
 try (unfold Act.put; dsimp only)
 refine wpAnyN_ready (rs := [2, 7]) (by kernel_rfl) (by simp) ?_
 refine AllReadyN.cons rfl (fun K hK => ?_) ?_
 ·go_simp
  go_at_call 72
  refine (H.out _).mono ?_
  rintro e w5 ⟨rfl, hb5⟩
  have hbw5 : Below w.heap.size w w5 := Below.trans (show Below w.heap.size w _ by go_grown) (hb5.mono (by first | omega | (simp; done) | (simp; omega)))
  dsimp only
  refine hK.out _ _ ?_ (fun hHeld => ?_)
  ·(try dsimp only)
   try trivial
  clear hK K
  (try change wpAnyN _ _ _ _ _ _ _ _ (Act.put _ (some 12) _) _)
  try (unfold Act.put; dsimp only)
  refine wpAnyN_ready (rs := [7]) (by kernel_rfl) (by simp) ?_
  refine AllReadyN.cons rfl (fun K hK => ?_) ?_
  ·go_simp
   refine hK.out _ _ ?_ (fun hHeld => ?_)
   ·(try dsimp only)
    try trivial
   clear hK K
   (try change wpAnyN _ _ _ _ _ _ _ _ (Act.put _ (some 17) _) _)
   try (unfold Act.put; dsimp only)
   refine wpAnyN_ready (rs := [8]) (by kernel_rfl) (by simp) ?_
   refine AllReadyN.cons rfl (fun K hK => ?_) ?_
   ·go_simp
    rw [conv_one (48 + (d : Int)) (by first | (simp; done) | (refine cell_keep hb5 ?_; simp; done)), hST]
    go_simp
    refine hK.out _ _ ?_ (fun hHeld => ?_)
    ·(try dsimp only)
     try trivial
    clear hK K
    (try change wpAnyN _ _ _ _ _ _ _ _ (Act.put _ (some 18) _) _)
    try (unfold Act.put; dsimp only)
    refine tk (i := 9) (v := ?_) rfl (by kernel_rfl) (fun _ _ _ h => h) (Or.inl ⟨by first | kernel_rfl | rfl, ?_⟩) (by assumption) ?_
    rotate_left
    focus intro w hSw; (try dsimp only at hSw); go_simp; try with_reducible rfl
    try (unfold Act.put; dsimp only)
    refine tk (i := 10) (v := ?_) rfl (by kernel_rfl) (fun _ _ _ h => h) (Or.inl ⟨by first | kernel_rfl | rfl, ?_⟩) (by assumption) ?_
    rotate_left
    focus intro w hSw; (try dsimp only at hSw); go_simp; try with_reducible rfl
    try (unfold Act.put; dsimp only)
    refine wpAnyN_done (by kernel_rfl) ?_ _
    go_wp2
    go_ret
    exact ⟨rfl, by first | exact hbw5 | exact hbw5.alloc hbw5.size _⟩
   exact AllReadyN.nil
  exact AllReadyN.nil
 refine AllReadyN.cons rfl (fun K hK => ?_) ?_
 ·go_simp
  refine hK.out _ _ ?_ (fun hHeld => ?_)
  ·(try dsimp only)
   try trivial
  clear hK K
  (try change wpAnyN _ _ _ _ _ _ _ _ (Act.put _ (some 17) _) _)
  try (unfold Act.put; dsimp only)
  refine wpAnyN_ready (rs := [2, 8]) (by kernel_rfl) (by simp) ?_
  refine AllReadyN.cons rfl (fun K hK => ?_) ?_
  ·go_simp
   go_at_call 72
   refine (H.out _).mono ?_
   rintro e w5 ⟨rfl, hb5⟩
   have hbw5 : Below w.heap.size w w5 := Below.trans (show Below w.heap.size w _ by go_grown) (hb5.mono (by first | omega | (simp; done) | (simp; omega)))
   dsimp only
   refine hK.out _ _ ?_ (fun hHeld => ?_)
   ·(try dsimp only)
    try trivial
   clear hK K
   (try change wpAnyN _ _ _ _ _ _ _ _ (Act.put _ (some 12) _) _)
   try (unfold Act.put; dsimp only)
   refine wpAnyN_ready (rs := [8]) (by kernel_rfl) (by simp) ?_
   refine AllReadyN.cons rfl (fun K hK => ?_) ?_
   ·go_simp
    rw [conv_one (48 + (d : Int)) (by first | (simp; done) | (refine cell_keep hb5 ?_; simp; done)), hST]
    go_simp
    refine hK.out _ _ ?_ (fun hHeld => ?_)
    ·(try dsimp only)
     try trivial
    clear hK K
    (try change wpAnyN _ _ _ _ _ _ _ _ (Act.put _ (some 18) _) _)
    try (unfold Act.put; dsimp only)
    refine tk (i := 9) (v := ?_) rfl (by kernel_rfl) (fun _ _ _ h => h) (Or.inl ⟨by first | kernel_rfl | rfl, ?_⟩) (by assumption) ?_
    rotate_left
    focus intro w hSw; (try dsimp only at hSw); go_simp; try with_reducible rfl
    try (unfold Act.put; dsimp only)
    refine tk (i := 10) (v := ?_) rfl (by kernel_rfl) (fun _ _ _ h => h) (Or.inl ⟨by first | kernel_rfl | rfl, ?_⟩) (by assumption) ?_
    rotate_left
    focus intro w hSw; (try dsimp only at hSw); go_simp; try with_reducible rfl
    try (unfold Act.put; dsimp only)
    refine wpAnyN_done (by kernel_rfl) ?_ _
    go_wp2
    go_ret
    exact ⟨rfl, by first | exact hbw5 | exact hbw5.alloc hbw5.size _⟩
   exact AllReadyN.nil
  refine AllReadyN.cons rfl (fun K hK => ?_) ?_
  ·go_simp
   rw [conv_one (48 + (d : Int)) (by first | (simp; done) | (refine cell_keep hb5 ?_; simp; done)), hST]
   go_simp
   refine hK.out _ _ ?_ (fun hHeld => ?_)
   ·(try dsimp only)
    try trivial
   clear hK K
   (try change wpAnyN _ _ _ _ _ _ _ _ (Act.put _ (some 18) _) _)
   try (unfold Act.put; dsimp only)
   refine wpAnyN_ready (rs := [2]) (by kernel_rfl) (by simp) ?_
   refine AllReadyN.cons rfl (fun K hK => ?_) ?_
   ·go_simp
    go_at_call 72
    refine (H.out _).mono ?_
    rintro e w5 ⟨rfl, hb5⟩
    have hbw5 : Below w.heap.size w w5 := Below.trans (show Below w.heap.size w _ by go_grown) (hb5.mono (by first | omega | (simp; done) | (simp; omega)))
    dsimp only
    refine hK.out _ _ ?_ (fun hHeld => ?_)
    ·(try dsimp only)
     try trivial
    clear hK K
    (try change wpAnyN _ _ _ _ _ _ _ _ (Act.put _ (some 12) _) _)
    try (unfold Act.put; dsimp only)
    refine tk (i := 9) (v := ?_) rfl (by kernel_rfl) (fun _ _ _ h => h) (Or.inl ⟨by first | kernel_rfl | rfl, ?_⟩) (by assumption) ?_
    rotate_left
    focus intro w hSw; (try dsimp only at hSw); go_simp; try with_reducible rfl
    try (unfold Act.put; dsimp only)
    refine tk (i := 10) (v := ?_) rfl (by kernel_rfl) (fun _ _ _ h => h) (Or.inl ⟨by first | kernel_rfl | rfl, ?_⟩) (by assumption) ?_
    rotate_left
    focus intro w hSw; (try dsimp only at hSw); go_simp; try with_reducible rfl
    try (unfold Act.put; dsimp only)
    refine wpAnyN_done (by kernel_rfl) ?_ _
    go_wp2
    go_ret
    exact ⟨rfl, by first | exact hbw5 | exact hbw5.alloc hbw5.size _⟩
   exact AllReadyN.nil
  exact AllReadyN.nil
 exact AllReadyN.nil
theorem dec_any (n : Nat) (w : World) (h : n ≤ 99999999) :
 Calls Tryz.prog 72 #[.int .i64 n] w fun e w' => e = .returned (.string (decB n)) ∧ Below w.heap.size w w' := by
 revert h w
 refine dec_ind (P := fun n => ∀ (w : World), n ≤ 99999999 → Calls Tryz.prog 72 #[.int .i64 n] w fun e w' => e = .returned (.string (decB n)) ∧ Below w.heap.size w w') ?_ ?_ n
 ·intro n h1 w _
  have := digits1 n w h1
  rwa [decB_digs h1] at this
 ·intro n h1 ih w h
  exact dec_step n w h1 h fun w => ih w (by omega)
theorem d_any (n : Nat) (w : World) (h : n ≤ 99999999) :
 Calls Tryz.prog 35 #[.int .i64 n] w fun e w' => e = .returned (.string (decB n)) ∧ Below w.heap.size w w' := by
 go_enter Tryz.func35, Tryz.ntmps35
 go_wp2_with fail
 refine (dec_any n _ h).mono ?_
 rintro e w' ⟨rfl, hb⟩
 go_wp2
 go_ret
 exact ⟨rfl, hb⟩
theorem d23_any (n : Nat) (w : World) (h : n ≤ 99999999) :
 Calls Tryz.prog 83 #[.int .i64 n] w fun e w' => e = .returned (.string (decB n)) ∧ Below w.heap.size w w' := by
 go_enter Tryz.func83, Tryz.ntmps83
 go_wp2_with fail
 refine (dec_any n _ h).mono ?_
 rintro e w' ⟨rfl, hb⟩
 go_wp2
 go_ret
 exact ⟨rfl, hb⟩
theorem mode23_any (m : Nat) (w : World) (h : m ≤ 4) :
 Calls Tryz.prog 84 #[.int .i64 m] w fun e w' => e = .returned (.string (bsA (modeL m))) ∧ Below w.heap.size w w' := by
 have hm : m = 0 ∨ m = 1 ∨ m = 2 ∨ m = 3 ∨ m = 4 := by omega
 rcases hm with rfl | rfl | rfl | rfl | rfl
 all_goals
  go_enter Tryz.func84, Tryz.ntmps84
  go_wp2
  go_ret
  exact ⟨rfl, by go_grown⟩
theorem mode_not {L : List UInt8} {k : Nat} (h : ∀ j, 1 ≤ j → j < k → L ≠ modeL j) (h4 : 5 ≤ k) : modeT L = 0 := by
 unfold modeT
 have a1 : L ≠ [73, 83] := h 1 (by omega) (by omega)
 have a2 : L ≠ [73, 88] := h 2 (by omega) (by omega)
 have a3 : L ≠ [83] := h 3 (by omega) (by omega)
 have a4 : L ≠ [88] := h 4 (by omega) (by omega)
 rw [if_neg a1, if_neg a2, if_neg a3, if_neg a4]
theorem mode_eq {L : List UInt8} {k : Nat} (h1 : 1 ≤ k) (h4 : k ≤ 4) (h : L = modeL k) : modeT L = k := by rw [h]; exact mode_of h1 h4
theorem bs_list (l : List UInt8) : (bsA l).toList = l := by rw [ByteArray.toList_eq]; rfl
theorem ba_list (s : ByteArray) : s.toList = s.data.toList := by rw [ByteArray.toList_eq]
theorem bs_ne {s : ByteArray} {l : List UInt8} (h : ¬ s.data.toList = l) : ((bsA l).toList == s.toList) = false := by
 rw [bs_list, ba_list]
 simpa using fun e => h e.symm
theorem bs_eq {s : ByteArray} {l : List UInt8} (h : s.data.toList = l) : s = bsA l := by rw [← h, bsA_of]
theorem rmode_any (s : ByteArray) (w : World) :
 Calls Tryz.prog 47 #[.string s] w fun e w' => e = .returned (.int .i64 (modeT s.data.toList : Nat)) ∧ Below w.heap.size w w' := by
 go_enter Tryz.func47, Tryz.ntmps47
 go_wp2
 go_loopw [3] (fun i wr => ∃ k : Nat, 1 ≤ k ∧ k ≤ 5 ∧ i = .int .i64 k ∧ (∀ j, 1 ≤ j → j < k → s.data.toList ≠ modeL j) ∧ Below w.heap.size w wr) (fun i _ => 5 - (intOf i).toNat)
 case atStart => exact ⟨1, by omega, by omega, rfl, fun j a b => by omega, Below.refl _ _⟩
 case round =>
  obtain ⟨k, h1, h5, rfl, hno, hb⟩ := hrel
  have HNO := Lib.hid hno
  clear hno
  by_cases hk : k < 5
  ·have hk' : (k : Int) < 5 := by omega
   by_cases heq : s.data.toList = modeL k
   ·have HM := Lib.hid (mode_eq h1 (by omega) heq)
    have hes : bsA (modeL k) = s := (bs_eq heq).symm
    clear heq
    go_wp2_with (go_at_call 37; refine (rmodes_at _).mono ?_; rintro e w' ⟨rfl, hcs, hb1⟩; have hc := hcs k hk; have HB1 := Lib.hid (hb.trans (hb1.mono hb.size)); clear hcs hb1)
    go_ret
    exact ⟨reti' (by rw [HM.out]), HB1.out⟩
   ·have hne := bs_ne heq
    have HNO2 := Lib.hid (show ∀ j, 1 ≤ j → j < k + 1 → s.data.toList ≠ modeL j from fun j a b => by
     rcases Nat.lt_or_ge j k with q | q
     ·exact HNO.out j a q
     ·obtain rfl : j = k := by omega
      exact heq)
    clear heq
    go_wp2_with (go_at_call 37; refine (rmodes_at _).mono ?_; rintro e w' ⟨rfl, hcs, hb1⟩; have hc := hcs k hk; have HB1 := Lib.hid (hb.trans (hb1.mono hb.size)); clear hcs hb1)
    go_roundw
    case rel => exact ⟨k + 1, by omega, by omega, by go_num, HNO2.out, HB1.out⟩
    case measure => simp [intOf]; omega
  ·have hk' : ¬ (k : Int) < 5 := by omega
   have HM := Lib.hid (mode_not HNO.out (by omega))
   go_wp2
   go_ret
   exact ⟨reti' (by rw [HM.out]; rfl), hb⟩
end Go.Proofs.YtjpjlfjaapfnkaaGreatDoor
namespace Go.Proofs.YtjpjlfjaapfnkaaGreatDoor
open Go.ChangeShapes Go.WideShapes Go.ChangeAt Go.RowKit
def strV (ws : List (List UInt8)) : List Value := ws.map fun l => Value.string (bsA l)
theorem strV_length (ws : List (List UInt8)) : (strV ws).length = ws.length := by simp [strV]
theorem strV_append (a b : List (List UInt8)) : strV (a ++ b) = strV a ++ strV b := by simp [strV]
theorem strV_get {ws : List (List UInt8)} {i : Nat} (h : i < ws.length) : (strV ws)[i]? = some (.string (bsA (ws.getD i []))) := by
 unfold strV
 rw [List.getElem?_map, List.getD_eq_getElem?_getD, List.getElem?_eq_getElem h]; rfl
theorem str_info : (Tryz.prog.info? 9).map (fun i => (i.zero, i.size, i.bytes)) = some (some (.string ByteArray.empty), 1, 16) := by kernel_rfl
section
variable {P : Program}
theorem run_append_strs {T E : TypeId} {sz : Nat} (hT : P.underlying T = some (.slice E)) (hI : (P.info? E).map (fun i => (i.zero, i.size, i.bytes)) = some (some (.string ByteArray.empty), 1, sz)) (hsz : 0 < sz)
 (B : Nat) (v : Value) (m : Nat) (xs : List Value) (w : World) (hown : w.ownsRow B E 1 v m xs) (A : Option Addr) (n c : Nat) (zs : List (List UInt8)) (hl : zs.length = n) (h : RdS w A zs) (hB : B ≤ w.heap.size) (hk : (m + n) * sz ≤ 140737488355328) :
 ∃ v' w', (Builtin.append_ #[T, T] T #[v, .slice A n c]).run P w = .ok v' w' ∧ w'.ownsRow B E 1 v' (m + n) (xs ++ strV zs) ∧ w.grownBy w' v.ownBlock := by
 obtain ⟨i0, hi0, hz0, hz1, hz2⟩ := info_parts hI
 obtain ⟨b, off, hA, hc⟩ := h
 have hmn : m + n ≤ 140737488355328 := Nat.le_trans (Nat.le_mul_of_pos_right _ hsz) hk
 cases A with
 | none =>
  have hn : n = 0 := by
   rcases Nat.eq_zero_or_pos n with h | h
   ·exact h
   ·cases (hA (by omega)).1
  subst hn
  have hb : zs = [] := List.eq_nil_of_length_eq_zero hl
  subst hb
  refine ⟨v, w, ?_, by simpa [strV] using hown, World.grownBy.refl w _⟩
  rcases hown.2 with ⟨rfl, rfl⟩ | ⟨g, cap, cur, rfl, _, _, hnc, _⟩
  ·simp [Builtin.append_, run_underlying hT, sizeOf, typeInfo, hi0, Builtin.lenOf, Builtin.firstCells]
  ·simp [Builtin.append_, run_underlying hT, sizeOf, typeInfo, hi0, Builtin.lenOf, Builtin.firstCells, hnc, storeCells]
 | some ad =>
  obtain ⟨v', w', hrun, h2, h3, _⟩ := run_append_own (P := P) w B T T E i0 _ 1 sz hT hi0 hz0 hz1 hz2 rfl (by decide) v m xs hown ad n c (strV zs) (by rw [strV_length, hl, Nat.mul_one])
   (fun j u hu => by
    have hj : j < zs.length := by
     rcases Nat.lt_or_ge j zs.length with h | h
     ·exact h
     ·rw [List.getElem?_eq_none (by rw [strV_length]; exact h)] at hu; cases hu
    rw [strV_get hj] at hu
    have := (hA (by omega)).1
    cases this
    rw [addn, hc j hj]; exact hu)
   (by simp [strV, Value.oneCell']) (by unfold maxLen; omega) hk hB
  exact ⟨v', w', hrun, h2, h3⟩
theorem wpList_append_strs {T E : TypeId} {sz : Nat} {ops : Array Oper} {rest : List Oper} {o : Oper} {a : Act} {Q : Exit → Act → World → Prop} {w : World} (hgd : o.guard = none) (s x : Operand)
 (ho : o.op = .call { callee := .builtin .append, args := #[s, x], argTypes := #[T, T] }) (hty : o.type = T)
 (hT : P.underlying T = some (.slice E)) (hI : (P.info? E).map (fun i => (i.zero, i.size, i.bytes)) = some (some (.string ByteArray.empty), 1, sz)) (hsz : 0 < sz)
 (B : Nat) (v : Value) (m : Nat) (xs : List Value) (hs : a.eval s = v) (hown : w.ownsRow B E 1 v m xs) (A : Option Addr) (n c : Nat) (zs : List (List UInt8)) (hx : a.eval x = .slice A n c) (hl : zs.length = n) (h : RdS w A zs) (hB : B ≤ w.heap.size) (hk : (m + n) * sz ≤ 140737488355328)
 (hc : ∀ v' w', w'.ownsRow B E 1 v' (m + n) (xs ++ strV zs) → w.grownBy w' v.ownBlock → wpList P ops Q rest (a.put o.dst v') w') : wpList P ops Q (o :: rest) a w := by
 refine wpList_plain hgd fun K hK => ?_
 obtain ⟨v', w', hrun, h2, h3⟩ := run_append_strs hT hI hsz B v m xs w hown A n c zs hl h hB hk
 unfold Oper.wp execOp
 simp only [ho, hty, resolve, invoke, builtin, Sem.run_bind, Sem.run_pure, Result.andThen_ok, List.map_toArray, List.map_cons, List.map_nil, hs, hx, hrun]
 exact hK _ _ (hc v' w' h2 h3)
end
theorem rds_of_own {w : World} {B n : Nat} {T : TypeId} {v : Value} {ws : List (List UInt8)} (h : w.ownsRow B T 1 v n (strV ws)) :
 ws.length = n ∧ ∃ A c, v = .slice A n c ∧ n ≤ c ∧ RdS w A ws := by
 have hl : ws.length = n := by have := h.1; rw [strV_length] at this; omega
 refine ⟨hl, ?_⟩
 rcases h.2 with ⟨rfl, h0⟩ | ⟨g, cap, cur, rfl, hg, hh, hc, _⟩
 ·subst h0
  have : ws = [] := List.eq_nil_of_length_eq_zero hl
  subst this
  exact ⟨none, 0, rfl, Nat.le_refl _, 0, 0, fun h => by simp at h, fun i h => by simp at h⟩
 ·refine ⟨_, cap, rfl, hc, g, 0, fun _ => ⟨rfl, (Array.getElem?_eq_some_iff.1 hh).1⟩, fun i hi => ?_⟩
  have := h.cells (g := g) rfl i _ (strV_get hi)
  rw [add0] at this
  simpa using this
theorem rds_one (W : World) (l : List UInt8) (T : TypeId) : RdS (W.alloc (.cells #[.string (bsA l)] T)) (some ⟨W.heap.size, 0, none⟩) [l] :=
 ⟨W.heap.size, 0, fun _ => ⟨rfl, by simp⟩, fun i hi => by
  obtain rfl : i = 0 := by simpa using hi
  simp⟩
theorem sp_take {c : UInt8} {s : ByteArray} {k : Nat} (hk : k < s.size) {a : List (List UInt8)} {b : List UInt8} (h : spL c (s.data.toList.take k) = a ++ [b]) :
 spL c (s.data.toList.take (k + 1)) = if s[k] = c then (a ++ [b]) ++ [[]] else a ++ [b ++ [s[k]]] := by
 rw [take_snoc s k hk]
 by_cases hc : s[k] = c
 ·rw [if_pos hc, hc, sp_snoc_sep, h]
 ·rw [if_neg hc, sp_snoc c _ hc, h]
  clear h
  induction a with
  | nil => rfl
  | cons x r ih =>
   rw [List.cons_append, addLast_cons _ _ (by simp), ih]; rfl
theorem ext_one {s : ByteArray} {k : Nat} (h : k < s.size) (b : List UInt8) : bsA b ++ s.extract k (k + 1) = bsA (b ++ [s[k]]) := by
 apply ByteArray.ext
 apply Array.ext'
 simp only [ByteArray.data_append, Array.toList_append, bsA]
 rw [Lib.extract_data, List.drop_eq_getElem_cons (by exact h), show k + 1 - k = 1 by omega]
 rfl
theorem sp_length (c : UInt8) (L : List UInt8) : (spL c L).length ≤ L.length + 1 := by
 induction L with
 | nil => simp [spL]
 | cons x r ih =>
  unfold spL
  split
  ·simp; omega
  ·split
   ·rename_i h t ht; rw [ht] at ih; simp at ih ⊢; omega
   ·simp
theorem sp_word (c : UInt8) (L : List UInt8) : ∀ w ∈ spL c L, w.length ≤ L.length := by
 induction L with
 | nil => intro w hw; simp [spL] at hw; subst hw; simp
 | cons x r ih =>
  intro w hw
  unfold spL at hw
  split at hw
  ·rcases List.mem_cons.1 hw with rfl | h
   ·simp
   ·have := ih w h; simp; omega
  ·split at hw
   ·rename_i a t ht
    rw [ht] at ih
    rcases List.mem_cons.1 hw with rfl | h
    ·have := ih a List.mem_cons_self; simp; omega
    ·have := ih w (List.mem_cons_of_mem _ h); simp; omega
   ·rename_i ht; exact absurd ht (sp_ne c r)
set_option maxRecDepth 100000 in
set_option maxHeartbeats 2000000 in
theorem rsplit_any (s : ByteArray) (c : UInt8) (w : World) (hs : s.size ≤ 1000000) :
 Calls Tryz.prog 43 #[.string s, .int .u8 (c.toNat : Int)] w fun e w' => (∃ v, e = .returned v ∧ w'.ownsRow w.heap.size 9 1 v (spL c s.data.toList).length (strV (spL c s.data.toList))) ∧ Below w.heap.size w w' := by
 go_enter Tryz.func43, Tryz.ntmps43
 go_wp2
 go_loopw [5, 6, 7] (fun v u i wr => ∃ (k : Nat) (a : List (List UInt8)) (b : List UInt8), k ≤ s.size ∧ i = .int .i64 k ∧ u = .string (bsA b) ∧ spL c (s.data.toList.take k) = a ++ [b] ∧ wr.ownsRow w.heap.size 9 1 v a.length (strV a) ∧ Below w.heap.size w wr) (fun _ _ i _ => s.size - (intOf i).toNat)
 case atStart => exact ⟨0, [], [], Nat.zero_le _, rfl, rfl, rfl, World.ownsRow_nil _ _ _ _, Below.refl _ _⟩
 case round =>
  obtain ⟨k, a, b, hk, rfl, rfl, hsp, hown, hb⟩ := hrel
  rename_i v _
  have hl := sp_length c (s.data.toList.take k)
  have hw := sp_word c (s.data.toList.take k) b (by rw [hsp]; simp)
  rw [hsp, List.length_append, List.length_singleton] at hl
  have htk : (s.data.toList.take k).length ≤ k := List.length_take_le _ _
  have hal : a.length ≤ 1000000 := by omega
  have hbl : (bsA b).size ≤ 1000000 := by show b.toArray.size ≤ _; simp; omega
  obtain ⟨n, hn⟩ : ∃ n, a.length = n := ⟨_, rfl⟩
  rw [hn] at hal hown
  have HN := Lib.hid hn
  have HSP := Lib.hid hsp
  clear hl hw htk hn hsp
  have HOW := Lib.hid (hown.alloc (.cells #[.string (bsA b)] 9))
  have hsz : w.heap.size ≤ (wr.alloc (.cells #[.string (bsA b)] 9)).heap.size := by have := hb.size; simp; omega
  have HBA := Lib.hid (hb.alloc hb.size (.cells #[.string (bsA b)] 9))
  by_cases hlt : k < s.size
  ·have hlt' : (k : Int) < s.size := by omega
   by_cases hc : s[k] = c
   ·have hc' : ((s[k].toNat : Int) == c.toNat) = true := by rw [hc]; simp
    have HST := Lib.hid (show spL c (s.data.toList.take (k + 1)) = (a ++ [b]) ++ [[]] from by rw [sp_take hlt HSP.out, if_pos hc])
    clear hc
    go_wp2_with (at_builtin; refine wpList_append_strs rfl _ _ rfl rfl Tryz.underlying71 str_info (by decide) w.heap.size _ n (strV a) rfl HOW.out _ 1 1 [b] rfl rfl (rds_one _ b _) hsz (by omega) ?_; intro v7 w7 hown7 hg7; have HB7 := Lib.hid (HBA.out.grown hg7 hsz (fun q hq => (HOW.out.lt q hq).1)); have HO7 := Lib.hid hown7; clear hown7 hg7)
    go_roundw
    case rel => exact ⟨k + 1, a ++ [b], [], by omega, by go_num, rfl, HST.out, by rw [strV_append, List.length_append, HN.out]; exact HO7.out, HB7.out⟩
    case measure => simp [intOf]; omega
   ·have hc' : ((s[k].toNat : Int) == c.toNat) = false := by
     simp only [beq_eq_false_iff_ne, ne_eq]
     intro e
     exact hc (UInt8.toNat_inj.1 (by omega))
    have HST := Lib.hid (show spL c (s.data.toList.take (k + 1)) = a ++ [b ++ [s[k]]] from by rw [sp_take hlt HSP.out, if_neg hc])
    have hex := ext_one hlt b
    have hes : (s.extract k (k + 1)).size = 1 := by simp; omega
    have g1 : (k : Int) + 1 ≤ (s.size : Int) := by omega
    have g2 : (k : Int) ≤ (k : Int) + 1 := by omega
    have g3 : ((k : Int) + 1).toNat = k + 1 := by omega
    have g4 : ¬ 9223372036854775807 < (bsA b).size + (s.extract k (k + 1)).size := by omega
    clear hc
    go_wp2
    go_roundw
    case rel => exact ⟨k + 1, a, b ++ [s[k]], by omega, by go_num, rfl, HST.out, by rw [HN.out]; exact hown, hb⟩
    case measure => simp [intOf]; omega
  ·have hks : k = s.size := by omega
   subst hks
   have HST := Lib.hid (show spL c s.data.toList = a ++ [b] from by have := HSP.out; rwa [List.take_of_length_le (show s.data.toList.length ≤ s.size from Nat.le_refl _)] at this)
   go_wp2_with (at_builtin; refine wpList_append_strs rfl _ _ rfl rfl Tryz.underlying71 str_info (by decide) w.heap.size _ n (strV a) rfl HOW.out _ 1 1 [b] rfl rfl (rds_one _ b _) hsz (by omega) ?_; intro v7 w7 hown7 hg7; have HB7 := Lib.hid (HBA.out.grown hg7 hsz (fun q hq => (HOW.out.lt q hq).1)); have HO7 := Lib.hid hown7; clear hown7 hg7)
   go_ret
   exact ⟨⟨_, rfl, by rw [HST.out, strV_append, List.length_append, HN.out]; exact HO7.out⟩, HB7.out⟩
end Go.Proofs.YtjpjlfjaapfnkaaGreatDoor
namespace Go.Proofs.YtjpjlfjaapfnkaaGreatDoor
open Go.ChangeShapes Go.WideShapes Go.ChangeAt Go.RowKit
theorem add_ex (a b : ByteArray) (n m : Nat) (ha : a.size ≤ n) (hb : b.size ≤ m) (h : n + m ≤ 1000) : ∃ X : ByteArray, a ++ b = X ∧ X.size ≤ n + m ∧ ¬ 9223372036854775807 < a.size + b.size := by
 exact ⟨_, rfl, by rw [ByteArray.size_append]; omega, by omega⟩
end Go.Proofs.YtjpjlfjaapfnkaaGreatDoor
namespace Go.Proofs.YtjpjlfjaapfnkaaGreatDoor
open Go.ChangeShapes Go.WideShapes Go.ChangeAt Go.RowKit
theorem add_sp (a : ByteArray) (n : Nat) (ha : a.size ≤ n) (h : n ≤ 1000) : ∃ X : ByteArray, a ++ ⟨#[32]⟩ = X ∧ X.size ≤ n + 1 ∧ ¬ 9223372036854775807 < a.size + 1 :=
 ⟨_, rfl, by rw [ByteArray.size_append]; show a.size + 1 ≤ _; omega, by omega⟩
end Go.Proofs.YtjpjlfjaapfnkaaGreatDoor
namespace Go.Proofs.YtjpjlfjaapfnkaaGreatDoor
open Go.ChangeShapes Go.WideShapes Go.ChangeAt Go.RowKit
theorem textB_le {t r : Nat} (ht : t ≤ 250) (hr : r ≤ 250) : (textB t r).size ≤ 8 := by
 have h1 := dig_len t
 have h2 := dig_len r
 show (textL t r).toArray.size ≤ 8
 unfold textL
 split <;> simp <;> omega
end Go.Proofs.YtjpjlfjaapfnkaaGreatDoor
namespace Go.Proofs.YtjpjlfjaapfnkaaGreatDoor
open Go.ChangeShapes Go.WideShapes Go.ChangeAt Go.RowKit
theorem modeL_le (m : Nat) : (bsA (modeL m)).size ≤ 8 := by
 rw [bs_size]; unfold modeL; (repeat' split) <;> decide
end Go.Proofs.YtjpjlfjaapfnkaaGreatDoor

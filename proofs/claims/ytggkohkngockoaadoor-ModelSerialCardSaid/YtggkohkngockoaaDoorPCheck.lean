/-
  model.Check, model.Serial, catchboltlaw20.right. The condition of Serial: errors.errorType reads as the program's text lays it.
-/
import Derived.Test.YtggkohkngockoaaDoorPEvs
namespace Go.Proofs.YtggkohkngockoaaDoor
open Go.ChangeShapes Go.WideShapes Go.ChangeAt Go.RowKit Go.Maps
set_option linter.unusedVariables false
set_option linter.unusedSimpArgs false

/-- block b holds a fault: its place, its number -/
def FltAt (w : World) (b i : Nat) (k : Int) : Prop := 1 ≤ k ∧ k ≤ 15 ∧ w.cell? ⟨b, 0, none⟩ = some (.int .i64 (i : Int)) ∧ w.cell? ⟨b, 1, none⟩ = some (.iface 51 (.int .i64 k))
theorem FltAt.below {w w' : World} {b i : Nat} {k : Int} (h : FltAt w b i k) (hb : Below w.heap.size w w') : FltAt w' b i k := ⟨h.1, h.2.1, cell_keep hb h.2.2.1, cell_keep hb h.2.2.2⟩
theorem FltAt.err {w : World} {b i : Nat} {k : Int} (h : FltAt w b i k) : ErrIs w (.iface 46 (.pointer (some ⟨b, 0, none⟩))) k i := .inr (.inr ⟨b, rfl, h.1, h.2.1, h.2.2.1, h.2.2.2⟩)

set_option maxHeartbeats 1000000 in
theorem check_good (A : Option Addr) (n cp : Nat) (es : List Ev) (w : World) (hr : RdE w A es) (hl : es.length = n) (hn : n ≤ 1000) (ho : okF start es 0 = true) :
    Calls Tryd.prog 8 #[.slice A n cp] w fun e w' => e = .returned .nilIface ∧ Below w.heap.size w w' := by
  have HP := Lib.hid (play_any A n cp es w hr hl hn)
  rw [play_ok ho] at HP
  clear hr hl ho
  go_enter Tryd.func8, Tryd.ntmps8
  go_wp2_with fail
  refine HP.out.mono ?_
  rintro e w1 ⟨hb, v, rfl, _⟩
  go_wp2
  go_ret
  exact ⟨rfl, hb⟩
set_option maxHeartbeats 1000000 in
theorem check_bad (A : Option Addr) (n cp : Nat) (es : List Ev) (w : World) (hr : RdE w A es) (hl : es.length = n) (hn : n ≤ 1000) {i : Nat} {k : Int} (ho : playF start es 0 = .inr (i, k)) :
    Calls Tryd.prog 8 #[.slice A n cp] w fun e w' => (∃ b, e = .returned (.iface 46 (.pointer (some ⟨b, 0, none⟩))) ∧ FltAt w' b i k) ∧ Below w.heap.size w w' := by
  have HP := Lib.hid (play_any A n cp es w hr hl hn)
  rw [ho] at HP
  clear hr hl ho
  go_enter Tryd.func8, Tryd.ntmps8
  go_wp2_with fail
  refine HP.out.mono ?_
  rintro e w1 ⟨hb, b, rfl, _, h1, h2, h3, h4⟩
  have HF : Hid (FltAt w1 b i k) := Lib.hid ⟨h1, h2, h3, h4⟩
  clear h1 h2 h3 h4
  go_wp2
  go_ret
  exact ⟨⟨b, rfl, HF.out⟩, hb⟩
set_option maxHeartbeats 1000000 in
theorem serial_good (A : Option Addr) (n cp : Nat) (es : List Ev) (w : World) (hr : RdE w A es) (hl : es.length = n) (hn : n ≤ 1000) {ser : List Int} (ho : playF start es 0 = .inl ser) :
    Calls Tryd.prog 9 #[.slice A n cp] w fun e w' => (∃ v, e = .returned (.tuple #[v, .nilIface]) ∧ w'.ownsRow w.heap.size 3 1 v ser.length (numV .i64 ser)) ∧ Below w.heap.size w w' := by
  have HP := Lib.hid (play_any A n cp es w hr hl hn)
  rw [ho] at HP
  clear hr hl ho
  go_enter Tryd.func9, Tryd.ntmps9
  go_wp2_with fail
  refine HP.out.mono ?_
  rintro e w1 ⟨hb, v, rfl, hown⟩
  have HO := Lib.hid hown
  clear hown
  have hbs := hb.size
  go_wp2_with (go_at_call 18; refine (as_nil _ _).mono ?_; rintro e w' ⟨rfl, rfl⟩)
  go_ret2
  exact ⟨⟨v, rfl, own_below HO.out ((Below.refl _ _).alloc (Nat.le_refl _) _)⟩, hb.alloc hbs _⟩
set_option maxHeartbeats 1000000 in
theorem serial_bad (A : Option Addr) (n cp : Nat) (es : List Ev) (w : World) (hE : ErrT w) (hr : RdE w A es) (hl : es.length = n) (hn : n ≤ 1000) {i : Nat} {k : Int} (ho : playF start es 0 = .inr (i, k)) :
    Calls Tryd.prog 9 #[.slice A n cp] w fun e w' => (∃ b, e = .returned (.tuple #[.slice none 0 0, .iface 46 (.pointer (some ⟨b, 0, none⟩))]) ∧ FltAt w' b i k) ∧ Below w.heap.size w w' := by
  have HP := Lib.hid (play_any A n cp es w hr hl hn)
  rw [ho] at HP
  have HE := Lib.hid hE
  clear hr hl ho hE
  go_enter Tryd.func9, Tryd.ntmps9
  go_wp2_with fail
  refine HP.out.mono ?_
  rintro e w1 ⟨hb, b, rfl, _, h1, h2, h3, h4⟩
  have HF : Hid (FltAt w1 b i k) := Lib.hid ⟨h1, h2, h3, h4⟩
  clear h1 h2 h3 h4
  have hbs := hb.size
  have hbA : Below w1.heap.size w1 (w1.alloc (.cells #[.pointer none] 46)) := (Below.refl _ _).alloc (Nat.le_refl _) _
  have lb : b < w1.heap.size := lt_of_cell HF.out.2.2.1
  go_wp2_with fail
  refine (as_fault ⟨b, 0, none⟩ ⟨w1.heap.size, 0, none⟩ (.pointer none) _ ((HE.out.below hb).below hbA) (by simp) (by simp)).mono ?_
  rintro e w' ⟨rfl, hw'⟩
  have hb' : Below w1.heap.size w1 w' := by rw [← hw']; go_grown
  have c1 : w'.cell? ⟨w1.heap.size, 0, none⟩ = some (.pointer (some ⟨b, 0, none⟩)) := by
    rw [← hw']
    refine World.cell?_setCell_same (w := _) (u := .pointer none) (h := ?_) ..
    have e0 : ∀ (W : World) (o : Obj) (v : Value), W.cell? ⟨w1.heap.size, 0, none⟩ = some v → (W.alloc o).cell? ⟨w1.heap.size, 0, none⟩ = some v := fun W o v h => (World.cell?_alloc_lt _ _ ⟨w1.heap.size, 0, none⟩ (cell_lt h)).trans h
    exact e0 _ _ _ (e0 _ _ _ (e0 _ _ _ (e0 _ _ _ (by simp))))
  have HB' := Lib.hid hb'
  clear hw' hb'
  go_wp2
  go_quiet (fail)
  go_wp2
  go_ret2
  have hB2 := below_drewN HB'.out nq
  exact ⟨⟨b, rfl, HF.out.below hB2⟩, hb.trans (hB2.mono hbs)⟩
end Go.Proofs.YtggkohkngockoaaDoor

/-
  slices.Collect, slices.SortedFunc, res.Sort over resources.
-/
import Derived.Test.YtonphamahnagfaaDoorSortW
namespace Go.Proofs.YtonphamahnagfaaDoor
open Go.RowKit Go.Sort Go.Shelf
set_option linter.unusedVariables false
set_option linter.unusedSimpArgs false

theorem kp_sort {n0 : Nat} {w : World} (hn0 : n0 ≤ w.heap.size) (W W' : World) (h : KeepsOthers W W') (hb : Below w.heap.size W W') : Below n0 W W' := hb.mono hn0
/-- slices.Collect of slices.Values -/
theorem collect_values (Bs n0 len cap : Nat) (A : Option Addr) (rs : List R2) (hl : rs.length = len) (hlb : len ≤ 1000000) (w : World) (hBs : Bs < w.heap.size) (hn0 : n0 ≤ w.heap.size)
    (hc : w.cell? ⟨Bs, 0, none⟩ = some (.slice A len cap)) (hr : RdR0 n0 w A rs) :
    Calls Tryd.prog 42 #[.func (.func 44) #[] #[.pointer (some ⟨Bs, 0, none⟩)]] w fun e w' => (∃ v, e = .returned v ∧ w'.ownsRow w.heap.size 24 2 v len (flatR rs)) ∧ Below w.heap.size w w' := by
  have hgf : ∀ args w, (callFunc 44 args).run Tryd.prog w = .ok (.enter 44 args) w := enters_of Tryd.func44 (by kernel_rfl) rfl
  have H := Lib.hid ((callsIn_wide (n := 5)).1 (appendSeq_in 44 #[.pointer (some ⟨Bs, 0, none⟩)] hgf hlb w (values_stops 4 (by omega) Bs n0 len cap A rs hl hlb w hBs hn0 hc hr) (fun xs h => by rw [h, hl]; exact Nat.le_refl _) Below.trans
    (fun W l o o' h h1 h2 h3 => belowK_b (n₀ := n0) (w := w.alloc (.cells #[.slice none 0 0] 45)) (by simp; omega) W l o o' (by simpa using h) h1 h2 h3)
    (fun W W' h hb => hb.mono hn0)))
  have HL := Lib.hid hl
  clear hBs hn0 hc hr hl hgf
  go_enter Tryd.func42, Tryd.ntmps42
  go_wp2_with fail
  refine H.out.mono ?_
  rintro e w1 ⟨⟨v, xs, rfl, rfl, hown⟩, hb⟩
  rw [HL.out] at hown
  have HO := Lib.hid hown
  have HB := Lib.hid hb
  clear hown hb
  go_wp2
  go_ret
  exact ⟨⟨_, rfl, HO.out⟩, HB.out⟩

theorem sortedFunc_any (Bs n0 len cap : Nat) (A : Option Addr) (rs : List R2) (hl : rs.length = len) (hlb : len ≤ 1000000) (w : World) (hBs : Bs < w.heap.size) (hn0 : n0 ≤ w.heap.size)
    (hc : w.cell? ⟨Bs, 0, none⟩ = some (.slice A len cap)) (hr : RdR0 n0 w A rs) :
    Calls Tryd.prog 30 #[.func (.func 44) #[] #[.pointer (some ⟨Bs, 0, none⟩)], .func (.func 32) #[] #[]] w fun e w' => (∃ A' c', e = .returned (.slice A' len c') ∧ RdR0 w'.heap.size w' A' (sortR rs)) ∧ Below w.heap.size w w' := by
  have H := Lib.hid (collect_values Bs n0 len cap A rs hl hlb w hBs hn0 hc hr)
  have HL := Lib.hid hl
  clear hBs hn0 hc hr hl
  go_enter Tryd.func30, Tryd.ntmps30
  go_wp2_with fail
  refine H.out.mono ?_
  rintro e w1 ⟨⟨v, rfl, hown⟩, hb⟩
  have HB := Lib.hid hb
  rcases Nat.eq_zero_or_pos len with h0 | h0
  · subst h0
    obtain ⟨g, c, rfl⟩ : ∃ g c, v = .slice g 0 c := by
      rcases hown.2 with ⟨rfl, _⟩ | ⟨g, c, cur, rfl, _⟩
      · exact ⟨_, _, rfl⟩
      · exact ⟨_, _, rfl⟩
    obtain rfl : rs = [] := List.eq_nil_of_length_eq_zero HL.out
    have h2 := AnyF.slices_SortFunc_none Tryd.sortRes g c (.func (.func 32) #[] #[]) w1
    change Calls Tryd.prog 43 _ _ _ at h2
    have H2 := Lib.hid h2
    clear h2
    clear hown hb
    go_wp2_with fail
    refine H2.out.mono ?_
    rintro e w2 ⟨rfl, rfl⟩
    go_wp2
    go_ret
    have hz : (sortR []).length = 0 := by rw [sortR_length]; rfl
    exact ⟨⟨_, _, rfl, 0, 0, ⟨fun h => by omega, fun j hj => by omega⟩⟩, HB.out⟩
  · obtain ⟨g, c, rfl, hg, hgs, hh⟩ := holds_of_own hown HL.out h0
    have H2 := Lib.hid (sortFunc_any g 0 c rs w1 hh hgs (by rw [HL.out]; exact hlb))
    rw [HL.out] at H2
    have HG := Lib.hid (And.intro hg (And.intro hgs hh))
    clear hown hb hg hgs hh
    go_wp2_with fail
    refine H2.out.mono ?_
    rintro e w2 ⟨rfl, n, os, rfl⟩
    go_wp2
    go_ret
    obtain ⟨hg, hgs, hh⟩ := HG.out
    refine ⟨⟨_, _, rfl, rd_of_holds (sort_holds hh (by simp [sortR_length]) hgs) (Nat.lt_of_lt_of_le hgs sort_size)⟩, HB.out.trans (sort_below hg HB.out.size)⟩

/-- res.Sort: the resources, in order -/
theorem sort_any (n0 len cap : Nat) (A : Option Addr) (rs : List R2) (hl : rs.length = len) (hlb : len ≤ 1000000) (w : World) (hn0 : n0 ≤ w.heap.size) (hr : RdR0 n0 w A rs) :
    Calls Tryd.prog 20 #[.slice A len cap] w fun e w' => (∃ A' c', e = .returned (.slice A' len c') ∧ RdR0 w'.heap.size w' A' (sortR rs)) ∧ Below w.heap.size w w' := by
  have hb1 : Below w.heap.size w (w.alloc (.cells #[.slice A len cap] 45)) := (Below.refl _ _).alloc (Nat.le_refl _) _
  have H := Lib.hid (sortedFunc_any w.heap.size n0 len cap A rs hl hlb (w.alloc (.cells #[.slice A len cap] 45)) (by simp) (by simp; omega) (by simp) (hr.below (hb1.mono hn0)))
  have HB := Lib.hid hb1
  clear hl hlb hr hb1
  go_enter Tryd.func20, Tryd.ntmps20
  go_wp2_with (go_at_call 31; refine (values_calls _ _ _ _).mono ?_; rintro e w' ⟨rfl, rfl⟩)
  refine H.out.mono ?_
  rintro e w2 ⟨⟨A', c', rfl, hr⟩, hb⟩
  have HR := Lib.hid hr
  have HB2 := Lib.hid (HB.out.trans (hb.mono (by simp)))
  clear hr hb
  go_wp2
  go_ret
  exact ⟨⟨_, _, rfl, HR.out⟩, HB2.out⟩
end Go.Proofs.YtonphamahnagfaaDoor

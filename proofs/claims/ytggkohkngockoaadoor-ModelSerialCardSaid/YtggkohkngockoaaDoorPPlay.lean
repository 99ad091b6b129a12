/-
  model.play, Check, Serial: a trace is played. No conditions.
-/
import Derived.Test.YtggkohkngockoaaDoorPNext
import Derived.Test.YtggkohkngockoaaDoorPlayL
import Derived.Test.YtggkohkngockoaaDoorErr
namespace Go.Proofs.YtggkohkngockoaaDoor
open Go.ChangeShapes Go.WideShapes Go.ChangeAt Go.RowKit Go.Maps
set_option linter.unusedVariables false
set_option linter.unusedSimpArgs false

theorem ser3_start : Ser3 start := fun k hk => by simp [start] at hk
theorem Ser3.next {s : St} {e : Ev} {n : Int} (h : Ser3 s) (h0 : nextE s e n = 0) (hl : ∀ k ∈ s.serial, k ≤ s.all.length) : Ser3 (nextS s e n) := by
  have hf := next_form h0
  by_cases k1 : e.kind = 1
  · unfold nextS
    rw [if_pos k1]
    intro k hk
    obtain ⟨a, b⟩ := h k hk
    have hkl := hl k hk
    refine ⟨a, ?_⟩
    rw [← b]
    unfold St.tx
    simp only [List.getD_eq_getElem?_getD]
    rw [List.getElem?_append_left (by omega)]
  by_cases k8 : e.kind = 8
  · unfold nextS
    rw [if_neg k1, if_pos k8]
    exact h
  obtain ⟨_, h1, h2, h3, h4⟩ := next_tx h0 k1 k8
  have key : ∀ (y : Tx) (d n : Nat → Bool) (ser : List Int), (y.state = 3 ∨ True) → ∀ k ∈ s.serial, 1 ≤ k ∧ (St.tx ⟨s.all.set (e.tx - 1).toNat y, d, n, ser⟩ k).state = 3 := fun y d n ser _ k hk => by
    obtain ⟨a, b⟩ := h k hk
    refine ⟨a, ?_⟩
    have hne : (k - 1).toNat ≠ (e.tx - 1).toNat := fun he => h3 (by
      have : k = e.tx := by omega
      rw [← this]; exact b)
    rw [← b]
    unfold St.tx
    simp only [List.getD_eq_getElem?_getD, List.getElem?_set]
    rw [if_neg (fun he => hne he.symm)]
  unfold nextS
  rw [if_neg k1, if_neg k8]
  unfold stepS
  by_cases k2 : e.kind = 2
  · simp only [k2, if_true]; exact key _ _ _ _ (.inr trivial)
  by_cases k3 : e.kind = 3
  · rw [if_neg k2, if_pos k3]; exact key _ _ _ _ (.inr trivial)
  by_cases k4 : e.kind = 4
  · rw [if_neg k2, if_neg k3, if_pos k4]; exact key _ _ _ _ (.inr trivial)
  by_cases k5 : e.kind = 5
  · rw [if_neg k2, if_neg k3, if_neg k4, if_pos k5]; exact key _ _ _ _ (.inr trivial)
  by_cases k6 : e.kind = 6
  · rw [if_neg k2, if_neg k3, if_neg k4, if_neg k5, if_pos k6]
    intro k hk
    rcases List.mem_append.1 hk with hk | hk
    · exact key _ _ _ _ (.inr trivial) k hk
    · rw [List.mem_singleton] at hk
      subst hk
      refine ⟨h1, ?_⟩
      unfold St.tx St.over
      simp only [List.getD_eq_getElem?_getD]
      rw [List.getElem?_set_self (by omega)]
      rfl
  · rw [if_neg k2, if_neg k3, if_neg k4, if_neg k5, if_neg k6]; exact key _ _ _ _ (.inr trivial)
theorem ser3_after {s : St} {l : List Ev} {i : Nat} (h : Ser3 s) (hk : StOk s i) (ho : okF s l i = true) : Ser3 (after s l i) := by
  induction l generalizing s i with
  | nil => exact h
  | cons e r ih =>
    rw [ok_cons] at ho
    simp at ho
    rw [after_cons]
    exact ih (h.next ho.1 (fun k hk' => (hk.ser k hk').2)) (hk.next ho.1) ho.2
theorem take_snoc {l : List Ev} {k : Nat} (h : k < l.length) : l.take (k + 1) = l.take k ++ [l.getD k Ev.none] := by
  rw [List.take_succ_eq_append_getElem h, List.getD_eq_getElem?_getD, List.getElem?_eq_getElem h]
  rfl
/-- the state ahead of place k -/
def stF (l : List Ev) (k : Nat) : St := after start (l.take k) 0
theorem stF_next {l : List Ev} {k : Nat} (h : k < l.length) : stF l (k + 1) = nextS (stF l k) (l.getD k Ev.none) k := by
  unfold stF
  rw [take_snoc h, after_append]
  simp [after, List.length_take]
  rw [Nat.min_eq_left (by omega)]
theorem okF_next {l : List Ev} {k : Nat} (h : k < l.length) (h0 : nextE (stF l k) (l.getD k Ev.none) k = 0) (ho : okF start (l.take k) 0 = true) : okF start (l.take (k + 1)) 0 = true := by
  rw [take_snoc h, ok_append, ho]
  simp only [Bool.true_and, Nat.zero_add, List.length_take]
  rw [Nat.min_eq_left (by omega), ok_cons, ok_nil]
  unfold stF at h0
  rw [decide_eq_true h0]; rfl
theorem play_stop {l : List Ev} {k : Nat} (h : k < l.length) (h0 : ¬ nextE (stF l k) (l.getD k Ev.none) k = 0) (ho : okF start (l.take k) 0 = true) : playF start l 0 = .inr (k, nextE (stF l k) (l.getD k Ev.none) k) := by
  have e : l = l.take k ++ (l.getD k Ev.none :: l.drop (k + 1)) := by
    rw [List.getD_eq_getElem?_getD, List.getElem?_eq_getElem h]
    simp
  conv => lhs; rw [e]
  rw [play_app ho, Nat.zero_add, List.length_take, Nat.min_eq_left (by omega), play_cons]
  unfold stF at h0 ⊢
  rw [if_neg h0]
theorem nextE_pos {s : St} {e : Ev} {n : Int} (h : ¬ nextE s e n = 0) : 1 ≤ nextE s e n ∧ nextE s e n ≤ 15 := by
  have := nextE_in s e n
  unfold codeE at this
  omega

/-- what a trace that is played leaves -/
def PlayOf (w w' : World) (r : List Int ⊕ Nat × Int) (e : Ending) : Prop :=
  Below w.heap.size w w' ∧ match r with
  | .inl ser => ∃ v, e = .returned (.tuple #[v, .nilIface]) ∧ w'.ownsRow w.heap.size 3 1 v ser.length (numV .i64 ser)
  | .inr (i, k) => ∃ b, e = .returned (.tuple #[.slice none 0 0, .iface 46 (.pointer (some ⟨b, 0, none⟩))]) ∧ w.heap.size ≤ b ∧ 1 ≤ k ∧ k ≤ 15 ∧ w'.cell? ⟨b, 0, none⟩ = some (.int .i64 (i : Int)) ∧ w'.cell? ⟨b, 1, none⟩ = some (.iface 51 (.int .i64 k))

theorem start_at (w : World) : StX (w.alloc (.cells #[.slice none 0 0, .bool false, .bool false, .bool false, .bool false, .bool false, .bool false, .bool false, .bool false, .bool false, .pointer none, .pointer none, .pointer none, .pointer none, .pointer none, .pointer none, .pointer none, .pointer none, .pointer none, .slice none 0 0] 61)) w.heap.size (fun _ => 0) w.heap.size start := by
  refine ⟨[], .slice none 0 0, .slice none 0 0, _, by rw [heap_push, if_pos rfl], rfl, rfl, rfl, fun k hk => ?_, fun k hk => ⟨none, ?_, rfl⟩, Nat.le_refl _, rfl, ⟨rfl, .inl ⟨rfl, rfl⟩⟩, fun k e => by simp [Value.ownBlock] at e, ⟨rfl, .inl ⟨rfl, rfl⟩⟩, fun k e => by simp [Value.ownBlock] at e, rfl, fun i b x hi => by simp at hi⟩
  · obtain rfl | rfl | rfl | rfl | rfl | rfl | rfl | rfl | rfl : k = 0 ∨ k = 1 ∨ k = 2 ∨ k = 3 ∨ k = 4 ∨ k = 5 ∨ k = 6 ∨ k = 7 ∨ k = 8 := by omega
    all_goals rfl
  · obtain rfl | rfl | rfl | rfl | rfl | rfl | rfl | rfl | rfl : k = 0 ∨ k = 1 ∨ k = 2 ∨ k = 3 ∨ k = 4 ∨ k = 5 ∨ k = 6 ∨ k = 7 ∨ k = 8 := by omega
    all_goals rfl

set_option maxRecDepth 100000 in
set_option maxHeartbeats 4000000 in
theorem play_any (A : Option Addr) (n cp : Nat) (es : List Ev) (w : World) (hr : RdE w A es) (hl : es.length = n) (hn : n ≤ 1000) :
    Calls Tryd.prog 17 #[.slice A n cp] w fun e w' => PlayOf w w' (playF start es 0) e := by
  have HR := Lib.hid hr
  have HL := Lib.hid hl
  clear hr hl
  have hst := start_at w
  go_enter Tryd.func17, Tryd.ntmps17
  go_wp2
  have hb1 : Below w.heap.size w (w.alloc (.cells #[.slice none 0 0, .bool false, .bool false, .bool false, .bool false, .bool false, .bool false, .bool false, .bool false, .bool false, .pointer none, .pointer none, .pointer none, .pointer none, .pointer none, .pointer none, .pointer none, .pointer none, .pointer none, .slice none 0 0] 61)) := (Below.refl _ _).alloc (Nat.le_refl _) _
  generalize w.alloc (.cells #[.slice none 0 0, .bool false, .bool false, .bool false, .bool false, .bool false, .bool false, .bool false, .bool false, .bool false, .pointer none, .pointer none, .pointer none, .pointer none, .pointer none, .pointer none, .pointer none, .pointer none, .pointer none, .slice none 0 0] 61) = w1 at *
  have HST := Lib.hid hst
  have HB1 := Lib.hid hb1
  clear hst hb1
  go_loopw [12] (fun i wr => ∃ k : Nat, k ≤ n ∧ i = .int .i64 k ∧ Below w.heap.size w wr ∧ okF start (es.take k) 0 = true ∧ ∃ tag, StX wr w.heap.size tag w.heap.size (stF es k)) (fun i _ => n - (intOf i).toNat)
  case atStart => exact ⟨0, Nat.zero_le _, rfl, HB1.out, rfl, _, HST.out⟩
  case round =>
    obtain ⟨k, hk, rfl, hbr, hok, tag, hX⟩ := hrel
    obtain ⟨bs, va, vs, cs, hS⟩ := hX
    have hbs := hbr.size
    have hsok : StOk (stF es k) k := by
      have := stok_after stok_start hok
      rw [Nat.zero_add, List.length_take, Nat.min_eq_left (by rw [HL.out]; exact hk)] at this
      exact this
    have hs3 := ser3_after ser3_start stok_start hok
    have HSO := Lib.hid hsok
    have HS3 : Hid (Ser3 (stF es k)) := Lib.hid hs3
    have HOK := Lib.hid hok
    have HBR := Lib.hid hbr
    have HS := Lib.hid hS
    clear hsok hs3 hok
    by_cases hlt : k < n
    · have hlt' : (k : Int) < n := by omega
      obtain ⟨ge, oe, hA, hc⟩ := HR.out.below hbr (Nat.le_refl _)
      obtain ⟨rfl, lge⟩ := hA (by rw [HL.out]; omega)
      obtain ⟨p0, p1, p2, p3, p4, p5, p6⟩ := hc k (by rw [HL.out]; exact hlt)
      have hkl : k < es.length := by rw [HL.out]; exact hlt
      have HKL := Lib.hid hkl
      clear hA hc hkl hS hbr
      obtain ⟨E, hE⟩ : ∃ E, es.getD k Ev.none = E := ⟨_, rfl⟩
      have HE := Lib.hid hE
      rw [hE] at p0 p1 p2 p3 p4 p5 p6
      clear hE
      have hbE : Below wr.heap.size wr (wr.alloc (.cells #[.int .i64 E.kind, .int .i64 E.client, .int .i64 E.tx, .int .i64 E.table, .int .i64 E.row, .int .i64 E.mode, .int .i64 E.code] 43)) := (Below.refl _ _).alloc (Nat.le_refl _) _
      have HBE := Lib.hid hbE
      have HN := Lib.hid (next_st (HS.out.below hbE) (by simp; omega) HSO.out (by omega) HS3.out E k)
      clear hbE
      by_cases h0 : nextE (stF es k) E k = 0
      · have H0 := Lib.hid h0
        rw [h0] at HN
        clear h0
        go_wp2_with fail
        refine HN.out.mono ?_
        rintro r w5 ⟨rfl, hb5, hs5⟩
        have HS5 := Lib.hid (hs5 rfl)
        rw [show errV 0 = Value.nilIface from rfl]
        clear hs5
        go_wp2
        go_roundw
        case rel =>
          refine ⟨k + 1, by omega, by go_num, ?_, ?_, ?_⟩
          · exact (HBR.out.trans (HBE.out.mono hbs)).trans hb5
          · exact okF_next HKL.out (by rw [HE.out]; exact H0.out) HOK.out
          · rw [stF_next HKL.out, HE.out]; exact HS5.out
        case measure => simp [intOf]; omega
      · have H0 := Lib.hid h0
        have hpos := nextE_pos h0
        have hstop := play_stop HKL.out (by rw [HE.out]; exact h0) HOK.out
        rw [HE.out] at hstop
        obtain ⟨kk, hkk⟩ : ∃ kk, nextE (stF es k) E k = kk := ⟨_, rfl⟩
        rw [hkk] at HN hpos hstop h0
        have HP := Lib.hid hpos
        have HSTOP := Lib.hid hstop
        have hev : errV kk = .iface 51 (.int .i64 kk) := by unfold errV; rw [if_neg h0]
        have HEV := Lib.hid hev
        clear h0 hpos hstop hkk hev
        go_wp2_with fail
        refine HN.out.mono ?_
        rintro r w5 ⟨rfl, hb5, hs5⟩
        rw [HEV.out]
        clear hs5
        have hBB := (HBR.out.trans (HBE.out.mono hbs)).trans hb5
        have hb5s := hBB.size
        go_wp2
        go_ret2
        rw [HSTOP.out]
        refine ⟨hBB.alloc hb5s _, w5.heap.size, rfl, hb5s, HP.out.1, HP.out.2, by simp, by simp⟩
    · have hkn : k = n := by omega
      subst hkn
      have hge : ¬ (k : Int) < k := by omega
      have hpl := play_ok HOK.out
      rw [List.take_of_length_le (by rw [HL.out]; exact Nat.le_refl _)] at hpl
      have c19 := heap_cell hS.1 (j := 19) hS.2.2.2.1
      have hown := hS.2.2.2.2.2.2.2.2.2.2.1
      have hst : stF es k = after start es 0 := by unfold stF; rw [List.take_of_length_le (by rw [HL.out]; exact Nat.le_refl _)]
      have HOW := Lib.hid hown
      have HPL := Lib.hid hpl
      have HSTF := Lib.hid hst
      clear hpl hown hst hS hbr
      go_wp2
      go_ret2
      rw [HPL.out]
      refine ⟨HBR.out, vs, rfl, ?_⟩
      have := HOW.out
      rw [HSTF.out] at this
      exact this
end Go.Proofs.YtggkohkngockoaaDoor

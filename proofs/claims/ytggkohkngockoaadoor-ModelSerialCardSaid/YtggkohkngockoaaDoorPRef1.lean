/-
  catchboltref20.Last, Mode, end, Of: what they compute. No conditions.
-/
import Derived.Test.YtggkohkngockoaaDoorPEvs
import Derived.Test.YtggkohkngockoaaDoorPEq
namespace Go.Proofs.YtggkohkngockoaaDoor
open Go.ChangeShapes Go.WideShapes Go.ChangeAt Go.RowKit Go.Maps
set_option linter.unusedVariables false
set_option linter.unusedSimpArgs false

theorem last_take {l : List Ev} {k : Nat} (h : k < l.length) : lastR (l.take (k + 1)) = lastStep (lastR (l.take k)) (l.getD k Ev.none) := by rw [take_snoc h, last_snoc]
theorem mode_take {l : List Ev} {k : Nat} (t a b : Int) (h : k < l.length) : modeR (l.take (k + 1)) t a b = modeStep t a b (modeR (l.take k) t a b) (l.getD k Ev.none) := by rw [take_snoc h, mode_snoc]
theorem of_take {l : List Ev} {k : Nat} (t : Int) (h : k < l.length) : ofR (l.take (k + 1)) t = ofStep t (ofR (l.take k) t) (l.getD k Ev.none) := by rw [take_snoc h, of_snoc]
theorem endR_hit {l : List Ev} {k : Nat} {t : Int} (h : k < l.length) (h0 : endR (l.take k) t = k) (h6 : (l.getD k Ev.none).kind = 6 ∧ (l.getD k Ev.none).tx = t) : endR l t = k := by
  have e : l = l.take k ++ (l.getD k Ev.none :: l.drop (k + 1)) := by
    rw [List.getD_eq_getElem?_getD, List.getElem?_eq_getElem h]; simp
  generalize l.getD k Ev.none = a at *
  have key : ∀ (p r : List Ev) (i : Nat), endFrom t p i = i + p.length → endFrom t (p ++ a :: r) i = i + p.length := by
    intro p
    induction p with
    | nil => intro r i _; simp [endFrom, h6]
    | cons b p ih =>
      intro r i hp
      unfold endFrom at hp
      rw [List.cons_append]
      unfold endFrom
      by_cases hb : b.kind = 6 ∧ b.tx = t
      · rw [if_pos hb] at hp; simp at hp
      · rw [if_neg hb] at hp ⊢
        rw [ih r (i + 1) (by simp at hp ⊢; omega)]
        simp; omega
  rw [e]
  unfold endR at h0 ⊢
  rw [key _ _ _ (by rw [h0, List.length_take]; omega), List.length_take]
  omega
theorem endR_miss {l : List Ev} {k : Nat} {t : Int} (h : k < l.length) (h0 : endR (l.take k) t = k) (h6 : ¬ ((l.getD k Ev.none).kind = 6 ∧ (l.getD k Ev.none).tx = t)) : endR (l.take (k + 1)) t = k + 1 := by
  have hl : (l.take k).length = k := by rw [List.length_take]; omega
  rw [take_snoc h, end_snoc, h0, hl, if_neg (by omega), if_neg h6]

theorem mstep_yes {tx t r m : Int} {e : Ev} (h : e.kind = 3 ∧ e.tx = tx ∧ e.table = t ∧ e.row = r) : modeStep tx t r m e = e.mode := if_pos h
theorem mstep_no {tx t r m : Int} {e : Ev} (h : ¬ (e.kind = 3 ∧ e.tx = tx ∧ e.table = t ∧ e.row = r)) : modeStep tx t r m e = m := if_neg h
/- the event at place k of the row (A, n): its cells, by name -/

set_option maxHeartbeats 1000000 in
theorem last_any (A : Option Addr) (n cp : Nat) (es : List Ev) (w : World) (hr : RdE w A es) (hl : es.length = n) (hn : n ≤ 1000) :
    Calls Tryd.prog 41 #[.slice A n cp] w fun e w' => e = .returned (.int .i64 (lastR es)) ∧ w = w' := by
  have HR := Lib.hid hr
  have HL := Lib.hid hl
  clear hr hl
  go_enter Tryd.func41, Tryd.ntmps41
  go_wp2
  go_loop [3, 4] (fun m i => ∃ k : Nat, k ≤ n ∧ i = .int .i64 k ∧ m = .int .i64 (lastR (es.take k))) (fun _ i => n - (intOf i).toNat)
  case atStart => exact ⟨0, Nat.zero_le _, rfl, rfl⟩
  case round =>
    obtain ⟨k, hk, rfl, rfl⟩ := hrel
    by_cases hlt : k < n
    · have hlt' : (k : Int) < n := by omega
      have hkl : k < es.length := by rw [HL.out]; exact hlt
      obtain ⟨ge, oe, hA, hc⟩ := (HR.out)
      obtain ⟨rfl, lge⟩ := hA (by rw [HL.out]; omega)
      obtain ⟨p0, p1, p2, p3, p4, p5, p6⟩ := hc k hkl
      have HKL := Lib.hid hkl
      clear hA hc hkl
      obtain ⟨E, hE⟩ : ∃ E, es.getD k Ev.none = E := ⟨_, rfl⟩
      have HE := Lib.hid hE
      rw [hE] at p0 p1 p2 p3 p4 p5 p6
      clear hE
      obtain ⟨ek, ec, ex, et, er, em, eq⟩ := E
      simp only at p0 p1 p2 p3 p4 p5 p6
      obtain ⟨m, hm⟩ : ∃ m, lastR (es.take k) = m := ⟨_, rfl⟩
      have hsn := last_take HKL.out
      rw [HE.out, hm] at hsn
      have HS := Lib.hid hsn
      rw [hm]
      clear hsn hm
      by_cases h1 : ek = 1
      · subst h1
        go_wp2
        go_round
        case rel => exact ⟨k + 1, by omega, by go_num, by rw [HS.out]; rfl⟩
        case measure => simp [intOf]; omega
      · have h1b : (ek == 1) = false := by simpa using h1
        have HN := Lib.hid h1
        clear h1
        go_wp2
        go_round
        case rel => exact ⟨k + 1, by omega, by go_num, by rw [HS.out]; unfold lastStep; rw [if_neg HN.out]⟩
        case measure => simp [intOf]; omega
    · have hkn : k = n := by omega
      subst hkn
      have hge : ¬ (k : Int) < k := by omega
      have HT : Hid (es.take k = es) := Lib.hid (List.take_of_length_le (by rw [HL.out]; exact Nat.le_refl _))
      go_wp2
      go_ret
      exact ⟨by rw [HT.out]; rfl, rfl⟩
set_option maxHeartbeats 2000000 in
theorem end_any (A : Option Addr) (n cp : Nat) (es : List Ev) (t : Int) (w : World) (hr : RdE w A es) (hl : es.length = n) (hn : n ≤ 1000) :
    Calls Tryd.prog 46 #[.slice A n cp, .int .i64 t] w fun e w' => e = .returned (.int .i64 (endR es t : Nat)) ∧ w = w' := by
  have HR := Lib.hid hr
  have HL := Lib.hid hl
  clear hr hl
  go_enter Tryd.func46, Tryd.ntmps46
  go_wp2
  go_loop [5] (fun i => ∃ k : Nat, k ≤ n ∧ i = .int .i64 k ∧ endR (es.take k) t = k) (fun i => n - (intOf i).toNat)
  case atStart => exact ⟨0, Nat.zero_le _, rfl, rfl⟩
  case round =>
    obtain ⟨k, hk, rfl, hen⟩ := hrel
    have HEN := Lib.hid hen
    clear hen
    by_cases hlt : k < n
    · have hlt' : (k : Int) < n := by omega
      have hkl : k < es.length := by rw [HL.out]; exact hlt
      obtain ⟨ge, oe, hA, hc⟩ := (HR.out)
      obtain ⟨rfl, lge⟩ := hA (by rw [HL.out]; omega)
      obtain ⟨p0, p1, p2, p3, p4, p5, p6⟩ := hc k hkl
      have HKL := Lib.hid hkl
      clear hA hc hkl
      obtain ⟨E, hE⟩ : ∃ E, es.getD k Ev.none = E := ⟨_, rfl⟩
      have HE := Lib.hid hE
      rw [hE] at p0 p1 p2 p3 p4 p5 p6
      clear hE
      obtain ⟨ek, ec, ex, et, er, em, eq⟩ := E
      simp only at p0 p1 p2 p3 p4 p5 p6
      by_cases h1 : ek = 6
      · by_cases h2 : ex = t
        · subst h1 h2
          have HH : Hid (endR es ex = k) := Lib.hid (endR_hit HKL.out HEN.out (by rw [HE.out]; exact ⟨rfl, rfl⟩))
          go_wp2
          go_ret
          exact ⟨by rw [HH.out]; rfl, rfl⟩
        · subst h1
          have h2b : (ex == t) = false := by simpa using h2
          have HH : Hid (endR (es.take (k + 1)) t = k + 1) := Lib.hid (endR_miss HKL.out HEN.out (by rw [HE.out]; exact fun q => h2 q.2))
          clear h2
          go_wp2
          go_round
          case rel => exact ⟨k + 1, by omega, by go_num, HH.out⟩
          case measure => simp [intOf]; omega
      · have h1b : (ek == 6) = false := by simpa using h1
        have HH : Hid (endR (es.take (k + 1)) t = k + 1) := Lib.hid (endR_miss HKL.out HEN.out (by rw [HE.out]; exact fun q => h1 q.1))
        clear h1
        go_wp2
        go_round
        case rel => exact ⟨k + 1, by omega, by go_num, HH.out⟩
        case measure => simp [intOf]; omega
    · have hkn : k = n := by omega
      subst hkn
      have hge : ¬ (k : Int) < k := by omega
      have HT : Hid (endR es t = k) := Lib.hid (by have := HEN.out; rwa [List.take_of_length_le (by rw [HL.out]; exact Nat.le_refl _)] at this)
      clear HEN
      go_wp2
      go_ret
      exact ⟨by rw [HT.out]; rfl, rfl⟩

set_option maxHeartbeats 2000000 in
theorem mode_any (A : Option Addr) (n cp : Nat) (es : List Ev) (t a b : Int) (w : World) (hr : RdE w A es) (hl : es.length = n) (hn : n ≤ 1000) :
    Calls Tryd.prog 43 #[.slice A n cp, .int .i64 t, .agg #[.int .i64 a, .int .i64 b]] w fun e w' => e = .returned (.int .i64 (modeR es t a b)) ∧ Below w.heap.size w w' := by
  have HR := Lib.hid hr
  have HL := Lib.hid hl
  clear hr hl
  have hbA : Below w.heap.size w (w.alloc (.cells #[.int .i64 a, .int .i64 b] 40)) := (Below.refl _ _).alloc (Nat.le_refl _) _
  have b0 : (w.alloc (.cells #[.int .i64 a, .int .i64 b] 40)).cell? ⟨w.heap.size, 0, none⟩ = some (.int .i64 a) := by simp
  have b1 : (w.alloc (.cells #[.int .i64 a, .int .i64 b] 40)).cell? ⟨w.heap.size, 1, none⟩ = some (.int .i64 b) := by simp
  go_enter Tryd.func43, Tryd.ntmps43
  go_wp2
  generalize hw1 : w.alloc (.cells #[.int .i64 a, .int .i64 b] 40) = w1 at *
  have hs1 : w1.heap.size = w.heap.size + 1 := by rw [← hw1]; simp
  have HB0 := Lib.hid b0
  have HB1 := Lib.hid b1
  have HS1 := Lib.hid hs1
  have HBA := Lib.hid hbA
  clear hw1 hbA b0 b1 hs1
  go_loopw [7, 8] (fun m i wr => ∃ k : Nat, k ≤ n ∧ i = .int .i64 k ∧ m = .int .i64 (modeR (es.take k) t a b) ∧ Below w1.heap.size w1 wr) (fun _ i _ => n - (intOf i).toNat)
  case atStart => exact ⟨0, Nat.zero_le _, rfl, rfl, Below.refl _ _⟩
  case round =>
    obtain ⟨k, hk, rfl, rfl, hbr⟩ := hrel
    have HBR := Lib.hid hbr
    have hBT := HBA.out.trans (hbr.mono (by have := HS1.out; omega))
    have HBT := Lib.hid hBT
    by_cases hlt : k < n
    · have hlt' : (k : Int) < n := by omega
      have hkl : k < es.length := by rw [HL.out]; exact hlt
      obtain ⟨ge, oe, hA, hc⟩ := (HR.out.below hBT (Nat.le_refl _))
      obtain ⟨rfl, lge⟩ := hA (by rw [HL.out]; omega)
      obtain ⟨p0, p1, p2, p3, p4, p5, p6⟩ := hc k hkl
      have HKL := Lib.hid hkl
      clear hA hc hkl
      obtain ⟨E, hE⟩ : ∃ E, es.getD k Ev.none = E := ⟨_, rfl⟩
      have HE := Lib.hid hE
      rw [hE] at p0 p1 p2 p3 p4 p5 p6
      clear hE
      obtain ⟨ek, ec, ex, et, er, em, eq⟩ := E
      simp only at p0 p1 p2 p3 p4 p5 p6
      have c0 := cell_keep hbr HB0.out
      have c1 := cell_keep hbr HB1.out
      obtain ⟨m, hm⟩ : ∃ m, modeR (es.take k) t a b = m := ⟨_, rfl⟩
      have hsn := mode_take t a b HKL.out
      rw [HE.out, hm] at hsn
      have HS := Lib.hid hsn
      rw [hm]
      clear hsn hm hbr hBT
      by_cases h1 : ek = 3
      · subst h1
        by_cases h2 : ex = t
        · subst h2
          by_cases h3 : et = a
          · subst h3
            by_cases h4 : er = b
            · subst h4
              go_wp2
              go_quiet (fail)
              go_wp2
              go_roundw
              case rel => exact ⟨k + 1, by omega, by go_num, by rw [HS.out]; simp [modeStep], below_drewN HBR.out _⟩
              case measure => simp [intOf]; omega
            · have h4b : (er == b) = false := by simpa using h4
              have HN := Lib.hid h4
              clear h4
              go_wp2
              go_quiet (fail)
              go_wp2
              go_roundw
              case rel => exact ⟨k + 1, by omega, by go_num, by rw [HS.out]; rw [mstep_no (fun q => HN.out q.2.2.2)], below_drewN HBR.out _⟩
              case measure => simp [intOf]; omega
          · have h3b : (et == a) = false := by simpa using h3
            have HN := Lib.hid h3
            clear h3
            go_wp2
            go_quiet (fail)
            go_wp2
            go_roundw
            case rel => exact ⟨k + 1, by omega, by go_num, by rw [HS.out]; rw [mstep_no (fun q => HN.out q.2.2.1)], below_drewN HBR.out _⟩
            case measure => simp [intOf]; omega
        · have h2b : (ex == t) = false := by simpa using h2
          have HN := Lib.hid h2
          clear h2
          go_wp2
          go_quiet (fail)
          go_wp2
          go_roundw
          case rel => exact ⟨k + 1, by omega, by go_num, by rw [HS.out]; rw [mstep_no (fun q => HN.out q.2.1)], below_drewN HBR.out _⟩
          case measure => simp [intOf]; omega
      · have h1b : (ek == 3) = false := by simpa using h1
        have HN := Lib.hid h1
        clear h1
        go_wp2
        go_quiet (fail)
        go_wp2
        go_roundw
        case rel => exact ⟨k + 1, by omega, by go_num, by rw [HS.out]; rw [mstep_no (fun q => HN.out q.1)], below_drewN HBR.out _⟩
        case measure => simp [intOf]; omega
    · have hkn : k = n := by omega
      subst hkn
      have hge : ¬ (k : Int) < k := by omega
      have HT : Hid (es.take k = es) := Lib.hid (List.take_of_length_le (by rw [HL.out]; exact Nat.le_refl _))
      clear hbr hBT
      go_wp2
      go_ret
      exact ⟨by rw [HT.out]; rfl, HBT.out⟩
end Go.Proofs.YtggkohkngockoaaDoor

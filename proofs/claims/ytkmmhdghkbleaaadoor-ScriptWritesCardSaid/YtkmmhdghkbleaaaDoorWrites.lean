/-
  catchboltlaw19.ScriptWrites: whether any entries may be, and their bytes, or the error and its place, are the document's. The condition: errors.errorType reads as the program's text lays it.
-/
import Derived.Test.YtkmmhdghkbleaaaDoorByt
import Derived.Test.YtkmmhdghkbleaaaDoorBytI
import Derived.Test.YtkmmhdghkbleaaaDoorBytJ
import Derived.Test.YtkmmhdghkbleaaaDoorErr
namespace Go.Proofs.YtkmmhdghkbleaaaDoor
open Go.ChangeShapes Go.WideShapes Go.ChangeAt Go.RowKit
set_option linter.unusedVariables false

theorem bytes_any (k c t r m p : Int) (w : World) :
    Calls Tryd.prog 6 #[.agg #[.int .i64 k, .int .i64 c, .int .i64 t, .int .i64 r, .int .i64 m, .int .i64 p]] w fun e w' => (if (⟨k, c, t, r, m, p⟩ : Ent).ok = true then ∃ A, e = .returned (.tuple #[.slice A 5 5, .bool true]) ∧ RdB w' A 5 (⟨k, c, t, r, m, p⟩ : Ent).wr else e = .returned (.tuple #[.slice none 0 0, .bool false])) ∧ Below w.heap.size w w' := by
  cases h : (⟨k, c, t, r, m, p⟩ : Ent).inR with
  | true =>
    by_cases h7 : 7 ≤ k
    · exact bytes_in7 k c t r m p w h h7
    · exact bytes_in0 k c t r m p w h h7
  | false =>
    have hno : ¬ (⟨k, c, t, r, m, p⟩ : Ent).ok = true := fun h' => by rw [ok_inR h'] at h; cases h
    refine (bytes_out k c t r m p w h).mono ?_
    rintro e w' ⟨h1, h2⟩
    refine ⟨?_, h2⟩
    split
    · rename_i hn; exact absurd hn hno
    · exact h1
theorem bytes_yes (k c t r m p : Int) (w : World) (h : (⟨k, c, t, r, m, p⟩ : Ent).ok = true) :
    Calls Tryd.prog 6 #[.agg #[.int .i64 k, .int .i64 c, .int .i64 t, .int .i64 r, .int .i64 m, .int .i64 p]] w fun e w' => (∃ A, e = .returned (.tuple #[.slice A 5 5, .bool true]) ∧ RdB w' A 5 (⟨k, c, t, r, m, p⟩ : Ent).wr) ∧ Below w.heap.size w w' := by
  refine (bytes_any k c t r m p w).mono ?_
  rintro e w' ⟨h1, h2⟩
  refine ⟨?_, h2⟩
  split at h1
  · exact h1
  · rename_i hn; exact absurd h hn
theorem bytes_no (k c t r m p : Int) (w : World) (h : ¬ (⟨k, c, t, r, m, p⟩ : Ent).ok = true) :
    Calls Tryd.prog 6 #[.agg #[.int .i64 k, .int .i64 c, .int .i64 t, .int .i64 r, .int .i64 m, .int .i64 p]] w fun e w' => e = .returned (.tuple #[.slice none 0 0, .bool false]) ∧ Below w.heap.size w w' := by
  refine (bytes_any k c t r m p w).mono ?_
  rintro e w' ⟨h1, h2⟩
  refine ⟨?_, h2⟩
  split at h1
  · rename_i hn; exact absurd hn h
  · exact h1

/-- the bytes of those that may be -/
def wok (es : List Ent) : List Int := es.flatMap fun e => if e.ok = true then e.wr else []
theorem wok_snoc (a : List Ent) (e : Ent) : wok (a ++ [e]) = wok a ++ (if e.ok = true then e.wr else []) := by simp [wok]
theorem wok_all {es : List Ent} (h : ∀ e ∈ es, e.ok = true) : wok es = wrs es := by
  induction es with
  | nil => rfl
  | cons e es ih =>
    have e1 : wok (e :: es) = (if e.ok = true then e.wr else []) ++ wok es := rfl
    rw [e1, if_pos (h e (by simp)), ih (fun x hx => h x (by simp [hx])), wrs_cons]
theorem snoc_ok {es : List Ent} {k : Nat} (h : ∀ j, j < k → (es.getD j Ent.none).ok = true) (hk : (es.getD k Ent.none).ok = true) : ∀ j, j < k + 1 → (es.getD j Ent.none).ok = true := by
  intro j hj
  rcases Nat.lt_or_ge j k with h' | h'
  · exact h j h'
  · have : j = k := by omega
    subst this; exact hk
theorem bytesV_append (a b : List Int) : bytesV (a ++ b) = bytesV a ++ bytesV b := by simp [bytesV]
theorem own_apart {w : World} {B n1 n2 s1 s2 : Nat} {e1 e2 : TypeId} {v1 v2 : Value} {x1 x2 : List Value} (h1 : w.ownsRow B e1 s1 v1 n1 x1) (h2 : w.ownsRow B e2 s2 v2 n2 x2) (hne : e1 ≠ e2) : v1.ownBlock = none ∨ v1.ownBlock ≠ v2.ownBlock := by
  rcases h1.2 with ⟨rfl, _⟩ | ⟨g1, c1, u1, rfl, _, hh1, _⟩
  · exact .inl rfl
  · right
    rcases h2.2 with ⟨rfl, _⟩ | ⟨g2, c2, u2, rfl, _, hh2, _⟩
    · simp [Value.ownBlock]
    · intro e
      have hg : g1 = g2 := by simpa [Value.ownBlock] using e
      subst hg
      rw [hh1] at hh2
      simp at hh2
      exact hne hh2.2

set_option maxHeartbeats 1000000 in
theorem sameb_any (A0 A1 : Option Addr) (n c0 c1 : Nat) (zs : List Int) (w : World) (h0 : RdB w A0 n zs) (h1 : RdB w A1 n zs) (hm : n ≤ 1000000) :
    Calls Tryd.prog 11 #[.slice A0 n c0, .slice A1 n c1] w fun e w' => e = .returned (.bool true) ∧ Below w.heap.size w w' := by
  obtain ⟨hl, _, g0, o0, hA0, hc0⟩ := h0
  obtain ⟨_, _, g1, o1, hA1, hc1⟩ := h1
  clear hl
  go_enter Tryd.func11, Tryd.ntmps11
  go_wp2
  go_loopw [5] (fun i wr => Below w.heap.size w wr ∧ ∃ k : Nat, k ≤ n ∧ i = .int .i64 k) (fun i _ => n - (intOf i).toNat)
  case atStart => exact ⟨Below.refl _ _, 0, by omega, rfl⟩
  case round =>
    obtain ⟨hb, k, hk, rfl⟩ := hrel
    by_cases hlt : k < n
    · have hlt' : (k : Int) < n := by omega
      obtain ⟨rfl, hg0⟩ := hA0 (by omega)
      obtain ⟨rfl, hg1⟩ := hA1 (by omega)
      have c0 := (hb.cell (p := ⟨g0, _, none⟩) hg0).trans (hc0 k hlt)
      have c1 := (hb.cell (p := ⟨g1, _, none⟩) hg1).trans (hc1 k hlt)
      generalize zs.getD k 0 = z at c0 c1
      have hne : (z != z) = false := by simp
      go_wp2
      go_region
      go_wp2
      go_roundw
      case rel => exact ⟨by first | exact hb | exact hb.drew, k + 1, by omega, by go_num⟩
      case measure => simp [intOf]; omega
    · have hk' : k = n := by omega
      subst hk'
      have hge : ¬ (k : Int) < k := by omega
      go_wp2
      go_ret
      exact ⟨rfl, hb⟩



set_option maxRecDepth 100000 in
set_option maxHeartbeats 4000000 in
theorem writes_true (A : Option Addr) (n cap : Nat) (es : List Ent) (w : World) (hE : ErrT w) (hn : es.length = n) (h : RdEo w A es) :
    Calls Tryd.prog 3 #[.slice A n cap] w fun e w' => e = .returned (.bool true) ∧ Below w.heap.size w w' := by
  have HE := Lib.hid hE
  have HN := Lib.hid hn
  have HR := Lib.hid h
  clear hE hn h
  go_enter Tryd.func3, Tryd.ntmps3
  go_wp2_with fail
  refine (alive_true _).mono ?_
  rintro e w1 ⟨rfl, hb1⟩
  by_cases hm : 500 < n
  · have hm' : (500 : Int) < n := by omega
    go_wp2
    go_ret
    exact ⟨rfl, hb1⟩
  · have hm' : ¬ (500 : Int) < n := by omega
    go_wp2
    clear hm'
    go_loopw [3, 4, 5, 6] (fun vi vw bd i wr => Below w.heap.size w wr ∧ ∃ k : Nat, k ≤ n ∧ i = .int .i64 k ∧ wr.ownsRow w.heap.size 30 6 vi k (flat (es.take k)) ∧ (∃ nw, nw ≤ 5 * k ∧ wr.ownsRow w.heap.size 5 1 vw nw (bytesV (wok (es.take k)))) ∧
      ((bd = .int .i64 (-1) ∧ ∀ j, j < k → (es.getD j Ent.none).ok = true) ∨ ∃ b : Nat, b < k ∧ bd = .int .i64 b ∧ (es.getD b Ent.none).ok = false ∧ ∀ j, j < b → (es.getD j Ent.none).ok = true)) (fun _ _ _ i _ => n - (intOf i).toNat)
    case atStart => exact ⟨hb1, 0, by omega, rfl, World.ownsRow_nil _ _ _ _, ⟨0, by omega, World.ownsRow_nil _ _ _ _⟩, .inl ⟨rfl, fun j hj => by omega⟩⟩
    case round =>
      obtain ⟨hbr, k, hk, rfl, hoi, ⟨nw, hnw, how⟩, hbad⟩ := hrel
      have hsr := hbr.size
      by_cases hlt : k < n
      · have hlt' : (k : Int) < n := by omega
        have hk0 : (0 : Int) ≤ k := by omega
        obtain ⟨gl, ol, hAl, hcl⟩ := HR.out
        obtain ⟨rfl, hgl⟩ := hAl (by rw [HN.out]; omega)
        have hc6 := hcl k (by rw [HN.out]; exact hlt)
        have HT := Lib.hid (take_snoc (es := es) (k := k) (by rw [HN.out]; exact hlt))
        have HBAD := Lib.hid hbad
        clear hAl hcl hbad
        generalize hEE : es.getD k Ent.none = E at *
        have HEE := Lib.hid hEE
        clear hEE
        obtain ⟨ek, ec, et, er, em, ep⟩ := E
        have HC := Lib.hid (fun W (hb : Below w.heap.size w W) => hc6.below hb hgl)
        obtain ⟨p0, p1, p2, p3, p4, p5⟩ := HC.out _ hbr
        simp only at p0 p1 p2 p3 p4 p5
        clear hc6
        go_wp2_with fail
        refine (of_any ek ec et er em ep _).mono ?_
        rintro e w5 ⟨rfl, hb5⟩
        have hoi5 := (own_below hoi hb5).alloc (.cells #[.int .i64 ek, .int .i64 ec, .int .i64 et, .int .i64 er, .int .i64 em, .int .i64 ep] 30)
        have how5 := (own_below how hb5).alloc (.cells #[.int .i64 ek, .int .i64 ec, .int .i64 et, .int .i64 er, .int .i64 em, .int .i64 ep] 30)
        have hb5' := hbr.trans (hb5.mono hsr)
        have hb6' := hb5'.alloc hb5'.size (.cells #[.int .i64 ek, .int .i64 ec, .int .i64 et, .int .i64 er, .int .i64 em, .int .i64 ep] 30)
        clear p0 p1 p2 p3 p4 p5
        go_wp2_with (at_builtin; refine wpList_append_ents rfl _ _ rfl rfl w.heap.size _ _ _ rfl hoi5 _ 1 1 [⟨ek, ec, et, er, em, ep⟩] rfl rfl (rdeo_one w5 ek ec et er em ep 30) hb6'.size (by omega) ?_; intro v7 w7 hown7 hg7; have how7 := how5.kept hg7 (own_apart how5 hoi5 (by decide)); have hb7 := Below.grown hb6' hg7 hb6'.size (fun q hq => (hoi5.lt q hq).1); obtain ⟨d0, d1, d2, d3, d4, d5⟩ := HC.out _ hb7; simp only at d0 d1 d2 d3 d4 d5)
        have hHT : (es.take k ++ [(⟨ek, ec, et, er, em, ep⟩ : Ent)]).length = k + 1 := by simp [HN.out, Nat.min_eq_left hk]
        rw [← flat_append] at hown7
        have hown7' := hown7
        rw [← hHT] at hown7'
        obtain ⟨A7, cap7, hv7, hcap7, hR7⟩ := rde_of_own hown7'
        rw [hHT] at hv7 hcap7
        subst hv7
        have HIN := Lib.hid hR7
        have HOI := Lib.hid hown7
        have HOW := Lib.hid how7
        have HB7 := Lib.hid hb7
        clear hown7' hR7 hown7 how7 hHT hoi5 how5
        cases hok : (⟨ek, ec, et, er, em, ep⟩ : Ent).ok with
        | true =>
          have HOK := Lib.hid hok
          clear hok
          refine (bytes_yes ek ec et er em ep w7 HOK.out).mono ?_
          rintro e w8 ⟨⟨A8, rfl, hR8⟩, hb8⟩
          -- behind Bytes at the world w8: in's row, want's row, l's cells
          have h8i := HIN.out.below hb8
          have hb8' : Below w.heap.size w w8 := HB7.out.trans (hb8.mono HB7.out.size)
          have hin : ∃ gi, A7 = some ⟨gi, 0, none⟩ ∧ Cells6 w8 gi (6 * k) ⟨ek, ec, et, er, em, ep⟩ := by
            obtain ⟨gi, hAi, hci⟩ := h8i
            have hlk : k < ((es.take k) ++ [(⟨ek, ec, et, er, em, ep⟩ : Ent)]).length := by simp; have := HN.out; omega
            refine ⟨gi, (hAi (by omega)).1, ?_⟩
            have := hci k hlk
            rw [show ((es.take k) ++ [(⟨ek, ec, et, er, em, ep⟩ : Ent)]).getD k Ent.none = ⟨ek, ec, et, er, em, ep⟩ by
              rw [List.getD_eq_getElem?_getD, List.getElem?_append_right (by simp; omega)]; simp [HN.out, Nat.min_eq_left hk]] at this
            exact this
          obtain ⟨gi, rfl, s0, s1, s2, s3, s4, s5⟩ := hin
          rw [Nat.mul_comm 6 k] at s0 s1 s2 s3 s4 s5
          have own8i := own_below HOI.out hb8
          have own8w := own_below HOW.out hb8
          have HO8 := Lib.hid own8i
          have HW8 := Lib.hid own8w
          have HB8 := Lib.hid hb8'
          clear h8i hb8' own8i own8w
          go_wp2_with fail
          refine (entok_any ek ec et er em ep _).mono ?_
          rw [show entB ek ec et er em ep = true from HOK.out]
          rintro e w9 ⟨rfl, hb9⟩
          have hb9' := HB8.out.trans (hb9.mono HB8.out.size)
          have own9i := own_below HO8.out hb9
          have own9w := own_below HW8.out hb9
          have HR9 := Lib.hid (hR8.below hb9)
          have HBx := Lib.hid hb9'
          clear hR8
          have hsz9 := hb9'.size
          rcases HBAD.out with ⟨rfl, hall⟩ | ⟨b, hbk, rfl, hbb, hball⟩
          · have HALL := Lib.hid (snoc_ok hall (by rw [HEE.out]; exact HOK.out))
            clear hall HBAD
            go_wp2_with (at_builtin; refine wpList_append_bytes rfl _ _ rfl rfl w.heap.size _ _ _ rfl own9w A8 5 5 _ rfl HR9.out hsz9 (by omega) ?_; intro v10 w10 hown10 hg10; have hown10i := own9i.kept hg10 (own_apart own9i own9w (by decide)); have hb10 := Below.grown HBx.out hg10 hsz9 (fun q hq => (own9w.lt q hq).1))
            go_roundw
            case rel =>
              refine ⟨hb10, k + 1, by omega, by go_num, by rw [HT.out]; exact hown10i, ⟨nw + 5, by omega, ?_⟩, (.inl ⟨rfl, HALL.out⟩)⟩
              rw [HT.out, wok_snoc, if_pos HOK.out, bytesV_append]; exact hown10
            case measure => simp [intOf]; omega
          · have HB2 := Lib.hid hbb
            have HB3 := Lib.hid hball
            clear hbb hball HBAD
            go_wp2_with (at_builtin; refine wpList_append_bytes rfl _ _ rfl rfl w.heap.size _ _ _ rfl own9w A8 5 5 _ rfl HR9.out hsz9 (by omega) ?_; intro v10 w10 hown10 hg10; have hown10i := own9i.kept hg10 (own_apart own9i own9w (by decide)); have hb10 := Below.grown HBx.out hg10 hsz9 (fun q hq => (own9w.lt q hq).1))
            go_roundw
            case rel =>
              refine ⟨hb10, k + 1, by omega, by go_num, by rw [HT.out]; exact hown10i, ⟨nw + 5, by omega, ?_⟩, (.inr ⟨b, by omega, rfl, HB2.out, HB3.out⟩)⟩
              rw [HT.out, wok_snoc, if_pos HOK.out, bytesV_append]; exact hown10
            case measure => simp [intOf]; omega
        | false =>
          have HOK := Lib.hid hok
          clear hok
          refine (bytes_no ek ec et er em ep w7 (by rw [HOK.out]; decide)).mono ?_
          rintro e w8 ⟨rfl, hb8⟩
          -- behind Bytes at the world w8: in's row, want's row, l's cells
          have h8i := HIN.out.below hb8
          have hb8' : Below w.heap.size w w8 := HB7.out.trans (hb8.mono HB7.out.size)
          have hin : ∃ gi, A7 = some ⟨gi, 0, none⟩ ∧ Cells6 w8 gi (6 * k) ⟨ek, ec, et, er, em, ep⟩ := by
            obtain ⟨gi, hAi, hci⟩ := h8i
            have hlk : k < ((es.take k) ++ [(⟨ek, ec, et, er, em, ep⟩ : Ent)]).length := by simp; have := HN.out; omega
            refine ⟨gi, (hAi (by omega)).1, ?_⟩
            have := hci k hlk
            rw [show ((es.take k) ++ [(⟨ek, ec, et, er, em, ep⟩ : Ent)]).getD k Ent.none = ⟨ek, ec, et, er, em, ep⟩ by
              rw [List.getD_eq_getElem?_getD, List.getElem?_append_right (by simp; omega)]; simp [HN.out, Nat.min_eq_left hk]] at this
            exact this
          obtain ⟨gi, rfl, s0, s1, s2, s3, s4, s5⟩ := hin
          rw [Nat.mul_comm 6 k] at s0 s1 s2 s3 s4 s5
          have own8i := own_below HOI.out hb8
          have own8w := own_below HOW.out hb8
          have HO8 := Lib.hid own8i
          have HW8 := Lib.hid own8w
          have HB8 := Lib.hid hb8'
          clear h8i hb8' own8i own8w
          go_wp2_with fail
          refine (entok_any ek ec et er em ep _).mono ?_
          rw [show entB ek ec et er em ep = false from HOK.out]
          rintro e w9 ⟨rfl, hb9⟩
          have hb9' := HB8.out.trans (hb9.mono HB8.out.size)
          have own9i := own_below HO8.out hb9
          have own9w := own_below HW8.out hb9
          have HOKK := Lib.hid (show (es.getD k Ent.none).ok = false by rw [HEE.out]; exact HOK.out)
          have HR9 := Lib.hid (rdb_nil w9)
          have HBx := Lib.hid hb9'
          have hsz9 := hb9'.size
          rcases HBAD.out with ⟨rfl, hall⟩ | ⟨b, hbk, rfl, hbb, hball⟩
          · have HALL := Lib.hid hall
            clear hall HBAD
            go_wp2_with (at_builtin; refine wpList_append_bytes rfl _ _ rfl rfl w.heap.size _ _ _ rfl own9w none 0 0 _ rfl HR9.out hsz9 (by omega) ?_; intro v10 w10 hown10 hg10; have hown10i := own9i.kept hg10 (own_apart own9i own9w (by decide)); have hb10 := Below.grown HBx.out hg10 hsz9 (fun q hq => (own9w.lt q hq).1))
            go_roundw
            case rel =>
              refine ⟨hb10, k + 1, by omega, by go_num, by rw [HT.out]; exact hown10i, ⟨nw + 0, by omega, ?_⟩, (.inr ⟨k, by omega, rfl, HOKK.out, HALL.out⟩)⟩
              rw [HT.out, wok_snoc, if_neg (by rw [HOK.out]; decide), List.append_nil]; exact (by simpa [bytesV] using hown10)
            case measure => simp [intOf]; omega
          · have HB2 := Lib.hid hbb
            have HB3 := Lib.hid hball
            have hb0 : ¬ (b : Int) < 0 := by omega
            clear hbb hball HBAD
            go_wp2_with (at_builtin; refine wpList_append_bytes rfl _ _ rfl rfl w.heap.size _ _ _ rfl own9w none 0 0 _ rfl HR9.out hsz9 (by omega) ?_; intro v10 w10 hown10 hg10; have hown10i := own9i.kept hg10 (own_apart own9i own9w (by decide)); have hb10 := Below.grown HBx.out hg10 hsz9 (fun q hq => (own9w.lt q hq).1))
            go_roundw
            case rel =>
              refine ⟨hb10, k + 1, by omega, by go_num, by rw [HT.out]; exact hown10i, ⟨nw + 0, by omega, ?_⟩, (.inr ⟨b, by omega, rfl, HB2.out, HB3.out⟩)⟩
              rw [HT.out, wok_snoc, if_neg (by rw [HOK.out]; decide), List.append_nil]; exact (by simpa [bytesV] using hown10)
            case measure => simp [intOf]; omega
      · have hk' : k = n := by omega
        subst hk'
        have hge : ¬ (k : Int) < k := by omega
        rw [List.take_of_length_le (by rw [HN.out]; exact Nat.le_refl _)] at hoi how
        have hn2 := HN.out
        rw [← hn2] at hoi
        obtain ⟨X5, k5, rfl, _, r5⟩ := rde_of_own hoi
        rw [hn2]
        have HR5 := Lib.hid r5
        clear hn2 hoi r5
        go_wp2_with fail
        refine (encode_n X5 k k5 es _ HR5.out HN.out (by omega)).mono ?_
        rintro e w6 ⟨hE, hb6⟩
        have hbx6 := hbr.trans (hb6.mono hsr)
        rcases hE with ⟨hok2, v6, rfl, hown6⟩ | ⟨i, g, hi, hbi, hball', rfl, hg0, hg1, c0, c1⟩
        · rcases hbad with ⟨rfl, hall⟩ | ⟨b, hbk, rfl, hbb, _⟩
          case inr =>
            exfalso
            have := hok2 (es.getD b Ent.none) (by rw [List.getD_eq_getElem?_getD, List.getElem?_eq_getElem (by rw [HN.out]; exact hbk)]; exact List.getElem_mem _)
            rw [this] at hbb; cases hbb
          rw [wok_all hok2] at how
          have how6 := own_below how hb6
          obtain ⟨Xw, kw, rfl, hkw, rw6⟩ := rdb_of_own how6 (wrs_range hok2)
          obtain ⟨X6, k6, rfl, hk6, rr6⟩ := rdb_of_own hown6 (wrs_range hok2)
          have hwl : nw = 5 * es.length := by have := how6.1; simp [bytesV, wrs_length] at this; omega
          subst hwl
          obtain ⟨M, hM⟩ : ∃ M, 5 * es.length = M := ⟨_, rfl⟩
          have hMm : M ≤ 1000000 := by have := HN.out; omega
          rw [hM] at rr6 rw6
          simp only [hM]
          clear hM hown6 how6 how hall hkw hk6 hnw
          go_wp2_with fail
          refine (sameb_any X6 Xw M k6 kw (wrs es) w6 rr6 rw6 hMm).mono ?_
          rintro e w9 ⟨rfl, hb9⟩
          go_wp2
          go_ret
          exact ⟨rfl, hbx6.trans (hb9.mono hbx6.size)⟩
        · rcases hbad with ⟨rfl, hall⟩ | ⟨b, hbk, rfl, hbb, hball⟩
          case inl =>
            exfalso
            have := hall i (by have := HN.out; omega)
            rw [this] at hbi; cases hbi
          have hib : i = b := by
            rcases Nat.lt_trichotomy i b with h' | h' | h'
            · have := hball i h'; rw [this] at hbi; cases hbi
            · exact h'
            · have := hball' b h'; rw [this] at hbb; cases hbb
          subst hib
          have hi0 : (0 : Int) ≤ i := by omega
          have HEI := Lib.hid (show ErrIs w6 (.iface 47 (.pointer (some ⟨g, 0, none⟩))) 5 (i : Int) from .inr (.inr ⟨g, rfl, by omega, by omega, c0, c1⟩))
          have HE6 := Lib.hid (HE.out.below hbx6)
          clear c0 c1 hball hball' hbb hbi how hg0 hg1
          go_wp2_with fail
          refine (code_err _ 5 (i : Int) w6 HEI.out).mono ?_
          rintro e w7 ⟨rfl, rfl⟩
          go_wp2_with fail
          refine (at_err _ 5 (i : Int) w6 HEI.out HE6.out).mono ?_
          rintro e w8 ⟨rfl, hb8⟩
          go_wp2
          go_ret
          exact ⟨rfl, hbx6.trans (hb8.mono hbx6.size)⟩
end Go.Proofs.YtkmmhdghkbleaaaDoor

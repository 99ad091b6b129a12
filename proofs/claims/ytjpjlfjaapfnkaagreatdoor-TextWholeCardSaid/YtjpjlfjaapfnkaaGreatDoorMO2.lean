/-
  TextWhole. No conditions beyond those that each theorem states.
-/
import Derived.Test.YtjpjlfjaapfnkaaGreatDoorMM2
namespace Go.Proofs.YtjpjlfjaapfnkaaGreatDoor
open Go.ChangeShapes Go.WideShapes Go.ChangeAt Go.RowKit
open C20 (Ev formB evC)
set_option linter.unusedVariables false
set_option linter.unusedSimpArgs false
theorem cells6_of {w : World} {g o : Nat} {e : Ent} (h : ∀ j u, j < 6 → e.cells[j]? = some u → w.cell? ⟨g, o + j, none⟩ = some u) : Cells6 w g o e :=
  ⟨h 0 _ (by omega) rfl, h 1 _ (by omega) rfl, h 2 _ (by omega) rfl, h 3 _ (by omega) rfl, h 4 _ (by omega) rfl, h 5 _ (by omega) rfl⟩
theorem rdeo_of_own {w : World} {B : Nat} {T : TypeId} {v : Value} {n : Nat} {es : List Ent} (h : w.ownsRow B T 6 v n (flat es)) : es.length = n ∧ ∃ A cap, v = .slice A n cap ∧ n ≤ cap ∧ RdEo w A es := by
  have hl : es.length = n := by have := h.1; rw [flat_length] at this; omega
  refine ⟨hl, ?_⟩
  rcases h.2 with ⟨rfl, h0⟩ | ⟨g, cap, cur, rfl, hg, hh, hc, _⟩
  · subst h0
    have : es = [] := List.eq_nil_of_length_eq_zero hl
    subst this
    exact ⟨none, 0, rfl, Nat.le_refl _, rdeo_nil w none⟩
  · refine ⟨_, cap, rfl, hc, g, 0, fun _ => ⟨rfl, (Array.getElem?_eq_some_iff.1 hh).1⟩, fun i hi => cells6_of fun j u hj hu => ?_⟩
    have := h.cells (g := g) rfl (6 * i + j) u ((flat_get es i j hi hj).trans hu)
    rw [add0] at this
    rwa [show 0 + i * 6 + j = 6 * i + j by omega]
theorem pa_fwd {α : Type} {P : List UInt8 → Option α} {T : α → List UInt8} {no : α} {ty : TypeId} {sz : Nat} {vals : List α → List Value} {W w' : World} {e : Ending} {xs : List α} (h : PaIs P no ty sz vals W w' e (xs.map T ++ [[]])) (hP : ∀ x ∈ xs, P (T x) = some x) :
    ∃ v, e = .returned (.tuple #[v, .nilIface]) ∧ w'.ownsRow W.heap.size ty sz v xs.length (vals xs) := by
  have hln : (xs.map T ++ [[]]).length = xs.length + 1 := by simp
  have hat : ∀ i (hi : i < xs.length), (xs.map T ++ [[]]).getD i [] = T xs[i] := fun i hi => by
    rw [List.getD_eq_getElem?_getD, List.getElem?_append_left (by simpa using hi)]
    simp [List.getElem?_eq_getElem hi]
  rcases h with ⟨ys, v, h1, h2, h3, rfl, ho⟩ | ⟨i, b, h1, h2, h3, h4, _⟩
  · rw [hln] at h1 h3
    have : ys = xs := by
      apply List.ext_getElem (by omega)
      intro i q1 q2
      have q := h3 i (by omega)
      rw [hat i q2, hP _ (List.getElem_mem q2), List.getD_eq_getElem?_getD, List.getElem?_eq_getElem q1] at q
      exact (Option.some.inj q).symm
    subst this
    exact ⟨v, rfl, ho⟩
  · exfalso
    rw [hln] at h1 h3 h4
    rcases Nat.lt_or_ge i xs.length with q | q
    · have := h3 (by omega)
      rw [hat i q, hP _ (List.getElem_mem q)] at this
      cases this
    · obtain rfl : i = xs.length := by omega
      refine h4 rfl ?_
      rw [List.getD_eq_getElem?_getD, List.getElem?_append_right (by simp)]
      simp
theorem take_snocN {l : List Ent} {k : Nat} (h : k < l.length) : l.take (k + 1) = l.take k ++ [l.getD k Ent.none] := by
  rw [List.take_succ_eq_append_getElem h, List.getD_eq_getElem?_getD, List.getElem?_eq_getElem h]
  rfl
set_option maxRecDepth 100000 in
set_option maxHeartbeats 16000000 in
theorem textwhole_true (A0 A1 A2 : Option Addr) (n0 c0 n1 c1 n2 c2 : Nat) (es0 : List Ev) (es1 : List Ent) (bs : List UInt8) (w : World) (hT : TxW w) (hG : 9 ≤ w.heap.size)
    (hr0 : C20.RdE w A0 es0) (hl0 : es0.length = n0) (hr1 : RdEo w A1 es1) (hl1 : es1.length = n1) (hr2 : RdN .u8 w A2 (bI bs)) (hl2 : bs.length = n2) :
    Calls Tryz.prog 8 #[.slice A0 n0 c0, .slice A1 n1 c1, .slice A2 n2 c2] w fun e w' => e = .returned (.bool true) ∧ Below w.heap.size w w' := by
  have HA := Lib.hid (alive_true w hT hG)
  have HT := Lib.hid hT
  have HG := Lib.hid hG
  have HR0 := Lib.hid hr0
  have HL0 := Lib.hid hl0
  have HR1 := Lib.hid hr1
  have HL1 := Lib.hid hl1
  have HR2 := Lib.hid hr2
  have HL2 := Lib.hid hl2
  clear hT hG hr0 hl0 hr1 hl1 hr2 hl2
  by_cases q0 : 60 < n0
  · have q0' : (60 : Int) < (n0 : Int) := by omega
    go_enter Tryz.func8, Tryz.ntmps8
    go_wp2_with fail
    refine HA.out.mono ?_
    rintro e w1 ⟨rfl, hb1⟩
    go_wp2
    go_ret
    exact ⟨rfl, hb1⟩
  have q0' : ¬ (60 : Int) < (n0 : Int) := by omega
  by_cases q1 : 60 < n1
  · have q1' : (60 : Int) < (n1 : Int) := by omega
    go_enter Tryz.func8, Tryz.ntmps8
    go_wp2_with fail
    refine HA.out.mono ?_
    rintro e w1 ⟨rfl, hb1⟩
    go_wp2
    go_ret
    exact ⟨rfl, hb1⟩
  have q1' : ¬ (60 : Int) < (n1 : Int) := by omega
  by_cases q2 : 2000 < n2
  · have q2' : (2000 : Int) < (n2 : Int) := by omega
    go_enter Tryz.func8, Tryz.ntmps8
    go_wp2_with fail
    refine HA.out.mono ?_
    rintro e w1 ⟨rfl, hb1⟩
    go_wp2
    go_ret
    exact ⟨rfl, hb1⟩
  have q2' : ¬ (2000 : Int) < (n2 : Int) := by omega
  go_enter Tryz.func8, Tryz.ntmps8
  go_wp2_with fail
  refine HA.out.mono ?_
  rintro e w1 ⟨rfl, hb1⟩
  have HB1 := Lib.hid hb1
  have HTA := Lib.hid (trace_any A0 n0 c0 es0 w1 (HT.out.below HB1.out) (HR0.out.below HB1.out (Nat.le_refl _)) HL0.out (by omega))
  clear hb1 HA
  go_wp2_with fail
  have q0 : n0 ≤ 60 := by omega
  have q1 : n1 ≤ 60 := by omega
  have q2 : n2 ≤ 2000 := by omega
  clear q0' q1' q2'
  refine HTA.out.mono ?_
  rintro e w2 ⟨hta, hb2⟩
  have HB2 := Lib.hid (HB1.out.trans (hb2.mono HB1.out.size))
  clear hb2 HTA
  rcases hta with ⟨ho, v, rfl, hown⟩ | ⟨i, b, h1, h2, h3, rfl, h4, h5⟩
  · have hall : ∀ e ∈ es0, evOk e = true := mem_getD (no := C20.Ev.none) (fun j hj => ho j (by rw [← HL0.out]; exact hj))
    obtain ⟨_, A3, c3, rfl, _, _, hr3, _⟩ := rdn_of_own hown
    have hz := evLn_len es0
    have hzl := HL0.out
    have HPT := Lib.hid (ptrace_any A3 (evLn es0).length c3 (evLn es0) w2 (HT.out.below HB2.out) (Nat.le_trans HG.out HB2.out.size) hr3 rfl (by omega))
    rw [evLn_sp hall] at HPT
    clear hown hr3 ho
    go_wp2_with fail
    refine HPT.out.mono ?_
    rintro e w3 ⟨hpt, hb3⟩
    obtain ⟨v3, rfl, hown3⟩ := pa_fwd hpt (fun x hx => evP_iff.2 ⟨hall x hx, rfl⟩)
    rw [HL0.out] at hown3
    obtain ⟨_, A4, c4, rfl, _, hr4⟩ := C20.rde_of_own hown3
    have HB3 := Lib.hid (HB2.out.trans (hb3.mono HB2.out.size))
    have HEV := Lib.hid (revents_true A4 A0 n0 c4 c0 es0 es0 w3 hr4 (HR0.out.below HB3.out (Nat.le_refl _)) HL0.out HL0.out (by omega) (fun k hk => rfl))
    clear hall hpt hown3 hr4 hb3 hz hzl HPT
    go_wp2_with fail
    refine HEV.out.mono ?_
    rintro e w4 ⟨rfl, hb4⟩
    have HB4 := Lib.hid (HB3.out.trans (hb4.mono HB3.out.size))
    clear hb4 HEV
    -- the entries are put in order
    go_wp2
    go_loopw [11, 12] (fun vi i wr => ∃ k : Nat, k ≤ n1 ∧ i = .int .i64 k ∧ Below w.heap.size w wr ∧ wr.ownsRow w.heap.size 33 6 vi k (flat (es1.take k))) (fun _ i _ => n1 - (intOf i).toNat)
    case atStart => exact ⟨0, Nat.zero_le _, rfl, HB4.out, ⟨rfl, .inl ⟨rfl, rfl⟩⟩⟩
    case round =>
      obtain ⟨k, hk, rfl, hbr, how⟩ := hrel
      have HBR := Lib.hid hbr
      have HOW := Lib.hid how
      clear how
      by_cases hlt : k < n1
      · have hlt' : (k : Int) < n1 := by omega
        have hk0 : (0 : Int) ≤ k := by omega
        obtain ⟨ga, oa, hA, hca⟩ := HR1.out.below hbr
        obtain ⟨rfl, lga⟩ := hA (by rw [HL1.out]; omega)
        obtain ⟨p0, p1, p2, p3, p4, p5⟩ := hca k (by rw [HL1.out]; exact hlt)
        have HTK := Lib.hid (take_snocN (l := es1) (k := k) (by rw [HL1.out]; exact hlt))
        generalize es1.getD k Ent.none = E at *
        obtain ⟨e0, e1, e2, e3, e4, e5⟩ := E
        simp only at p0 p1 p2 p3 p4 p5
        have hkn : k + 1 ≤ 1000000 := by omega
        clear hA hca hbr
        go_wp2_with fail
        refine (of_any e0 e1 e2 e3 e4 e5 _).mono ?_
        rintro e w5 ⟨rfl, hb5⟩
        have how6 := (own_below HOW.out hb5).alloc (.cells #[.int .i64 e0, .int .i64 e1, .int .i64 e2, .int .i64 e3, .int .i64 e4, .int .i64 e5] 33)
        have hb5' := HBR.out.trans (hb5.mono HBR.out.size)
        have HB6 := Lib.hid (hb5'.alloc hb5'.size (.cells #[.int .i64 e0, .int .i64 e1, .int .i64 e2, .int .i64 e3, .int .i64 e4, .int .i64 e5] 33))
        have hro := rdeo_one w5 e0 e1 e2 e3 e4 e5 33
        clear p0 p1 p2 p3 p4 p5 hb5 hb5'
        go_wp2_with (at_builtin; refine wpList_append_ents rfl _ _ rfl rfl w.heap.size _ k (flat (es1.take k)) rfl how6 ⟨w5.heap.size, 0, none⟩ 1 1 [⟨e0, e1, e2, e3, e4, e5⟩] rfl rfl hro HB6.out.size hkn ?_; intro v7 w7 hown7 hg7; have HB7 := Lib.hid (Below.grown HB6.out hg7 HB6.out.size (fun q hq => (how6.lt q hq).1)))
        rw [← flat_append, ← HTK.out] at hown7
        have HO7 := Lib.hid hown7
        clear hown7 hg7 how6 hro
        go_wp2
        go_roundw
        case rel => exact ⟨k + 1, by omega, by go_num, HB7.out, HO7.out⟩
        case measure => simp [intOf]; omega
      · obtain rfl : n1 = k := by omega
        have hnn : ¬ (n1 : Int) < n1 := by omega
        have htk : es1.take n1 = es1 := List.take_of_length_le (by rw [HL1.out]; exact Nat.le_refl _)
        have how := HOW.out
        rw [htk] at how
        obtain ⟨_, A5, c5, rfl, _, hr5⟩ := rdeo_of_own how
        have HR5 := Lib.hid hr5
        clear how htk hr5 hbr HOW
        -- the entries are written, and read
        have HSC := Lib.hid (script_any A5 n1 c5 es1 wr (HT.out.below HBR.out) HR5.out HL1.out (by omega))
        go_wp2_with fail
        refine HSC.out.mono ?_
        rintro e w8 ⟨hsc, hb8⟩
        have HB8 := Lib.hid (HBR.out.trans (hb8.mono HBR.out.size))
        have HR58 := Lib.hid (HR5.out.below hb8)
        rcases hsc with ⟨ho, v, rfl, hown⟩ | ⟨i, b, h1, h2, h3, rfl, h4, h5⟩
        · have hall : ∀ e ∈ es1, e.may = true := mem_getD (no := Ent.none) (fun j hj => ho j (by rw [← HL1.out]; exact hj))
          obtain ⟨_, A8, c8, rfl, _, _, hr8, _⟩ := rdn_of_own hown
          have hz := enLn_len es1
          have hzl := HL1.out
          have HPC := Lib.hid (pscript_any A8 (enLn es1).length c8 (enLn es1) w8 (HT.out.below HB8.out) (Nat.le_trans HG.out HB8.out.size) hr8 rfl (by omega))
          rw [enLn_sp hall] at HPC
          clear hown hr8 ho
          go_wp2_with fail
          refine HPC.out.mono ?_
          rintro e w9 ⟨hpc, hb9⟩
          obtain ⟨v9, rfl, hown9⟩ := pa_fwd hpc (fun x hx => entP_iff.2 ⟨hall x hx, rfl⟩)
          rw [HL1.out] at hown9
          obtain ⟨_, A9, c9, rfl, _, hr9⟩ := rdeo_of_own hown9
          have HB9 := Lib.hid (HB8.out.trans (hb9.mono HB8.out.size))
          have HR9 := Lib.hid hr9
          have HR59 := Lib.hid (HR58.out.below hb9)
          clear hall hpc hown9 hr9 hb9 hz hzl
          go_wp2
          go_loopw [17] (fun i wr => ∃ k : Nat, k ≤ n1 ∧ i = .int .i64 k ∧ Below w9.heap.size w9 wr) (fun i _ => n1 - (intOf i).toNat)
          case atStart => exact ⟨0, Nat.zero_le _, rfl, Below.refl _ _⟩
          case round =>
            obtain ⟨k, hk, rfl, hbr⟩ := hrel
            by_cases hlt : k < n1
            · have hlt' : (k : Int) < n1 := by omega
              have hk0 : (0 : Int) ≤ k := by omega
              obtain ⟨ga, oa, hA, hca⟩ := HR9.out.below hbr
              obtain ⟨rfl, lga⟩ := hA (by rw [HL1.out]; omega)
              obtain ⟨gb, ob, hB, hcb⟩ := HR59.out.below hbr
              obtain ⟨rfl, lgb⟩ := hB (by rw [HL1.out]; omega)
              obtain ⟨p0, p1, p2, p3, p4, p5⟩ := hca k (by rw [HL1.out]; exact hlt)
              obtain ⟨q0, q1, q2, q3, q4, q5⟩ := hcb k (by rw [HL1.out]; exact hlt)
              generalize es1.getD k Ent.none = E at *
              obtain ⟨e0, e1, e2, e3, e4, e5⟩ := E
              simp only at p0 p1 p2 p3 p4 p5 q0 q1 q2 q3 q4 q5
              have HBR := Lib.hid hbr
              clear hA hB hca hcb hbr
              go_wp2
              go_quiet (fail)
              go_wp2
              go_roundw
              case rel => exact ⟨k + 1, by omega, by go_num, C20.below_drewN HBR.out _⟩
              case measure => simp [intOf]; omega
            · obtain rfl : k = n1 := by omega
              have hnn : ¬ (k : Int) < k := by omega
              have HBR := Lib.hid (HB9.out.trans (hbr.mono HB9.out.size))
              clear hbr
              -- what the lines say as events
              have HPD := Lib.hid (ptrace_any A2 n2 c2 bs wr (HT.out.below HBR.out) (Nat.le_trans HG.out HBR.out.size) (HR2.out.below HBR.out) HL2.out (by omega))
              go_wp2_with fail
              refine HPD.out.mono ?_
              rintro e w16 ⟨hpd, hb16⟩
              have HB16 := Lib.hid (HBR.out.trans (hb16.mono HBR.out.size))
              rcases hpd with ⟨ys, v, h1, h2, h3, rfl, hown⟩ | ⟨i, b, h1, h2, h3, h4, rfl, h5, h6⟩
              · obtain ⟨hall, hback⟩ := ev_back h1 h2 h3
                obtain ⟨_, A16, c16, rfl, _, hr16⟩ := C20.rde_of_own hown
                have hyl : ys.length ≤ 3000 := by
                  have := sp_length 10 bs
                  have hb := HL2.out
                  omega
                obtain ⟨ny, hny⟩ : ∃ ny, ys.length = ny := ⟨_, rfl⟩
                rw [hny] at hyl ⊢
                have HSD := Lib.hid (trace_any A16 ny c16 ys w16 (HT.out.below HB16.out) hr16 hny hyl)
                have HALL := Lib.hid hall
                have HBK := Lib.hid hback
                have HNY := Lib.hid hny
                clear h1 h2 h3 hown hr16 hall hback hny
                go_wp2_with fail
                refine HSD.out.mono ?_
                rintro e w17 ⟨hsd, hb17⟩
                have HB17 := Lib.hid (HB16.out.trans (hb17.mono HB16.out.size))
                rcases hsd with ⟨ho, v, rfl, hown⟩ | ⟨i, b, h1, h2, h3, _⟩
                · rw [HBK.out] at hown
                  obtain ⟨_, A17, c17, rfl, _, _, hr17, _⟩ := rdn_of_own hown
                  have hv1 := conv_bI (c := c17) hr17 rfl
                  have hv2 := conv_bI (c := c2) (HR2.out.below HB17.out) HL2.out
                  clear hown hr17 ho
                  -- what the lines say as entries
                  have HPE := Lib.hid (pscript_any A2 n2 c2 bs w17 (HT.out.below HB17.out) (Nat.le_trans HG.out HB17.out.size) (HR2.out.below HB17.out) HL2.out (by omega))
                  go_wp2_with fail
                  refine HPE.out.mono ?_
                  rintro e w20 ⟨hpe, hb20⟩
                  have HB20 := Lib.hid (HB17.out.trans (hb20.mono HB17.out.size))
                  rcases hpe with ⟨ys, v, h1, h2, h3, rfl, hown⟩ | ⟨i, b, h1, h2, h3, h4, rfl, h5, h6⟩
                  · obtain ⟨hall, hback⟩ := en_back h1 h2 h3
                    obtain ⟨_, A20, c20, rfl, _, hr20⟩ := rdeo_of_own hown
                    have hyl : ys.length ≤ 3000 := by
                      have := sp_length 10 bs
                      have hb := HL2.out
                      omega
                    obtain ⟨ny, hny⟩ : ∃ ny, ys.length = ny := ⟨_, rfl⟩
                    rw [hny] at hyl ⊢
                    have HSE := Lib.hid (script_any A20 ny c20 ys w20 (HT.out.below HB20.out) hr20 hny hyl)
                    have HALL := Lib.hid hall
                    have HBK := Lib.hid hback
                    have HNY := Lib.hid hny
                    clear h1 h2 h3 hown hr20 hall hback hny
                    go_wp2_with fail
                    refine HSE.out.mono ?_
                    rintro e w21 ⟨hse, hb21⟩
                    have HB21 := Lib.hid (HB20.out.trans (hb21.mono HB20.out.size))
                    rcases hse with ⟨ho, v, rfl, hown⟩ | ⟨i, b, h1, h2, h3, _⟩
                    · rw [HBK.out] at hown
                      obtain ⟨_, A21, c21, rfl, _, _, hr21, _⟩ := rdn_of_own hown
                      have hv1 := conv_bI (c := c21) hr21 rfl
                      have hv2 := conv_bI (c := c2) (HR2.out.below HB21.out) HL2.out
                      clear hown hr21 ho
                      go_wp2
                      go_ret
                      exact ⟨rfl, HB21.out⟩
                    · exfalso
                      have := HALL.out _ (by rw [List.getD_eq_getElem?_getD, List.getElem?_eq_getElem (by rw [HNY.out]; exact h1)] ; exact List.getElem_mem _ : ys.getD i Ent.none ∈ ys)
                      dsimp only at h3
                      rw [this] at h3
                      cases h3
                  · clear h1 h2 h3 h4 h5 h6
                    go_wp2
                    go_ret
                    exact ⟨rfl, HB20.out⟩
                · exfalso
                  have := HALL.out _ (by rw [List.getD_eq_getElem?_getD, List.getElem?_eq_getElem (by rw [HNY.out]; exact h1)] ; exact List.getElem_mem _ : ys.getD i C20.Ev.none ∈ ys)
                  dsimp only at h3
                  rw [this] at h3
                  cases h3
              · clear h1 h2 h3 h4 h5 h6
                -- what the lines say as entries
                have HPE := Lib.hid (pscript_any A2 n2 c2 bs w16 (HT.out.below HB16.out) (Nat.le_trans HG.out HB16.out.size) (HR2.out.below HB16.out) HL2.out (by omega))
                go_wp2_with fail
                refine HPE.out.mono ?_
                rintro e w20 ⟨hpe, hb20⟩
                have HB20 := Lib.hid (HB16.out.trans (hb20.mono HB16.out.size))
                rcases hpe with ⟨ys, v, h1, h2, h3, rfl, hown⟩ | ⟨i, b, h1, h2, h3, h4, rfl, h5, h6⟩
                · obtain ⟨hall, hback⟩ := en_back h1 h2 h3
                  obtain ⟨_, A20, c20, rfl, _, hr20⟩ := rdeo_of_own hown
                  have hyl : ys.length ≤ 3000 := by
                    have := sp_length 10 bs
                    have hb := HL2.out
                    omega
                  obtain ⟨ny, hny⟩ : ∃ ny, ys.length = ny := ⟨_, rfl⟩
                  rw [hny] at hyl ⊢
                  have HSE := Lib.hid (script_any A20 ny c20 ys w20 (HT.out.below HB20.out) hr20 hny hyl)
                  have HALL := Lib.hid hall
                  have HBK := Lib.hid hback
                  have HNY := Lib.hid hny
                  clear h1 h2 h3 hown hr20 hall hback hny
                  go_wp2_with fail
                  refine HSE.out.mono ?_
                  rintro e w21 ⟨hse, hb21⟩
                  have HB21 := Lib.hid (HB20.out.trans (hb21.mono HB20.out.size))
                  rcases hse with ⟨ho, v, rfl, hown⟩ | ⟨i, b, h1, h2, h3, _⟩
                  · rw [HBK.out] at hown
                    obtain ⟨_, A21, c21, rfl, _, _, hr21, _⟩ := rdn_of_own hown
                    have hv1 := conv_bI (c := c21) hr21 rfl
                    have hv2 := conv_bI (c := c2) (HR2.out.below HB21.out) HL2.out
                    clear hown hr21 ho
                    go_wp2
                    go_ret
                    exact ⟨rfl, HB21.out⟩
                  · exfalso
                    have := HALL.out _ (by rw [List.getD_eq_getElem?_getD, List.getElem?_eq_getElem (by rw [HNY.out]; exact h1)] ; exact List.getElem_mem _ : ys.getD i Ent.none ∈ ys)
                    dsimp only at h3
                    rw [this] at h3
                    cases h3
                · clear h1 h2 h3 h4 h5 h6
                  go_wp2
                  go_ret
                  exact ⟨rfl, HB20.out⟩
        · clear h1 h2 h3 h4 h5
          -- what the lines say as events
          have HPD := Lib.hid (ptrace_any A2 n2 c2 bs w8 (HT.out.below HB8.out) (Nat.le_trans HG.out HB8.out.size) (HR2.out.below HB8.out) HL2.out (by omega))
          go_wp2_with fail
          refine HPD.out.mono ?_
          rintro e w16 ⟨hpd, hb16⟩
          have HB16 := Lib.hid (HB8.out.trans (hb16.mono HB8.out.size))
          rcases hpd with ⟨ys, v, h1, h2, h3, rfl, hown⟩ | ⟨i, b, h1, h2, h3, h4, rfl, h5, h6⟩
          · obtain ⟨hall, hback⟩ := ev_back h1 h2 h3
            obtain ⟨_, A16, c16, rfl, _, hr16⟩ := C20.rde_of_own hown
            have hyl : ys.length ≤ 3000 := by
              have := sp_length 10 bs
              have hb := HL2.out
              omega
            obtain ⟨ny, hny⟩ : ∃ ny, ys.length = ny := ⟨_, rfl⟩
            rw [hny] at hyl ⊢
            have HSD := Lib.hid (trace_any A16 ny c16 ys w16 (HT.out.below HB16.out) hr16 hny hyl)
            have HALL := Lib.hid hall
            have HBK := Lib.hid hback
            have HNY := Lib.hid hny
            clear h1 h2 h3 hown hr16 hall hback hny
            go_wp2_with fail
            refine HSD.out.mono ?_
            rintro e w17 ⟨hsd, hb17⟩
            have HB17 := Lib.hid (HB16.out.trans (hb17.mono HB16.out.size))
            rcases hsd with ⟨ho, v, rfl, hown⟩ | ⟨i, b, h1, h2, h3, _⟩
            · rw [HBK.out] at hown
              obtain ⟨_, A17, c17, rfl, _, _, hr17, _⟩ := rdn_of_own hown
              have hv1 := conv_bI (c := c17) hr17 rfl
              have hv2 := conv_bI (c := c2) (HR2.out.below HB17.out) HL2.out
              clear hown hr17 ho
              -- what the lines say as entries
              have HPE := Lib.hid (pscript_any A2 n2 c2 bs w17 (HT.out.below HB17.out) (Nat.le_trans HG.out HB17.out.size) (HR2.out.below HB17.out) HL2.out (by omega))
              go_wp2_with fail
              refine HPE.out.mono ?_
              rintro e w20 ⟨hpe, hb20⟩
              have HB20 := Lib.hid (HB17.out.trans (hb20.mono HB17.out.size))
              rcases hpe with ⟨ys, v, h1, h2, h3, rfl, hown⟩ | ⟨i, b, h1, h2, h3, h4, rfl, h5, h6⟩
              · obtain ⟨hall, hback⟩ := en_back h1 h2 h3
                obtain ⟨_, A20, c20, rfl, _, hr20⟩ := rdeo_of_own hown
                have hyl : ys.length ≤ 3000 := by
                  have := sp_length 10 bs
                  have hb := HL2.out
                  omega
                obtain ⟨ny, hny⟩ : ∃ ny, ys.length = ny := ⟨_, rfl⟩
                rw [hny] at hyl ⊢
                have HSE := Lib.hid (script_any A20 ny c20 ys w20 (HT.out.below HB20.out) hr20 hny hyl)
                have HALL := Lib.hid hall
                have HBK := Lib.hid hback
                have HNY := Lib.hid hny
                clear h1 h2 h3 hown hr20 hall hback hny
                go_wp2_with fail
                refine HSE.out.mono ?_
                rintro e w21 ⟨hse, hb21⟩
                have HB21 := Lib.hid (HB20.out.trans (hb21.mono HB20.out.size))
                rcases hse with ⟨ho, v, rfl, hown⟩ | ⟨i, b, h1, h2, h3, _⟩
                · rw [HBK.out] at hown
                  obtain ⟨_, A21, c21, rfl, _, _, hr21, _⟩ := rdn_of_own hown
                  have hv1 := conv_bI (c := c21) hr21 rfl
                  have hv2 := conv_bI (c := c2) (HR2.out.below HB21.out) HL2.out
                  clear hown hr21 ho
                  go_wp2
                  go_ret
                  exact ⟨rfl, HB21.out⟩
                · exfalso
                  have := HALL.out _ (by rw [List.getD_eq_getElem?_getD, List.getElem?_eq_getElem (by rw [HNY.out]; exact h1)] ; exact List.getElem_mem _ : ys.getD i Ent.none ∈ ys)
                  dsimp only at h3
                  rw [this] at h3
                  cases h3
              · clear h1 h2 h3 h4 h5 h6
                go_wp2
                go_ret
                exact ⟨rfl, HB20.out⟩
            · exfalso
              have := HALL.out _ (by rw [List.getD_eq_getElem?_getD, List.getElem?_eq_getElem (by rw [HNY.out]; exact h1)] ; exact List.getElem_mem _ : ys.getD i C20.Ev.none ∈ ys)
              dsimp only at h3
              rw [this] at h3
              cases h3
          · clear h1 h2 h3 h4 h5 h6
            -- what the lines say as entries
            have HPE := Lib.hid (pscript_any A2 n2 c2 bs w16 (HT.out.below HB16.out) (Nat.le_trans HG.out HB16.out.size) (HR2.out.below HB16.out) HL2.out (by omega))
            go_wp2_with fail
            refine HPE.out.mono ?_
            rintro e w20 ⟨hpe, hb20⟩
            have HB20 := Lib.hid (HB16.out.trans (hb20.mono HB16.out.size))
            rcases hpe with ⟨ys, v, h1, h2, h3, rfl, hown⟩ | ⟨i, b, h1, h2, h3, h4, rfl, h5, h6⟩
            · obtain ⟨hall, hback⟩ := en_back h1 h2 h3
              obtain ⟨_, A20, c20, rfl, _, hr20⟩ := rdeo_of_own hown
              have hyl : ys.length ≤ 3000 := by
                have := sp_length 10 bs
                have hb := HL2.out
                omega
              obtain ⟨ny, hny⟩ : ∃ ny, ys.length = ny := ⟨_, rfl⟩
              rw [hny] at hyl ⊢
              have HSE := Lib.hid (script_any A20 ny c20 ys w20 (HT.out.below HB20.out) hr20 hny hyl)
              have HALL := Lib.hid hall
              have HBK := Lib.hid hback
              have HNY := Lib.hid hny
              clear h1 h2 h3 hown hr20 hall hback hny
              go_wp2_with fail
              refine HSE.out.mono ?_
              rintro e w21 ⟨hse, hb21⟩
              have HB21 := Lib.hid (HB20.out.trans (hb21.mono HB20.out.size))
              rcases hse with ⟨ho, v, rfl, hown⟩ | ⟨i, b, h1, h2, h3, _⟩
              · rw [HBK.out] at hown
                obtain ⟨_, A21, c21, rfl, _, _, hr21, _⟩ := rdn_of_own hown
                have hv1 := conv_bI (c := c21) hr21 rfl
                have hv2 := conv_bI (c := c2) (HR2.out.below HB21.out) HL2.out
                clear hown hr21 ho
                go_wp2
                go_ret
                exact ⟨rfl, HB21.out⟩
              · exfalso
                have := HALL.out _ (by rw [List.getD_eq_getElem?_getD, List.getElem?_eq_getElem (by rw [HNY.out]; exact h1)] ; exact List.getElem_mem _ : ys.getD i Ent.none ∈ ys)
                dsimp only at h3
                rw [this] at h3
                cases h3
            · clear h1 h2 h3 h4 h5 h6
              go_wp2
              go_ret
              exact ⟨rfl, HB20.out⟩
  · clear h1 h2 h3 h4 h5
    -- the entries are put in order
    go_wp2
    go_loopw [11, 12] (fun vi i wr => ∃ k : Nat, k ≤ n1 ∧ i = .int .i64 k ∧ Below w.heap.size w wr ∧ wr.ownsRow w.heap.size 33 6 vi k (flat (es1.take k))) (fun _ i _ => n1 - (intOf i).toNat)
    case atStart => exact ⟨0, Nat.zero_le _, rfl, HB2.out, ⟨rfl, .inl ⟨rfl, rfl⟩⟩⟩
    case round =>
      obtain ⟨k, hk, rfl, hbr, how⟩ := hrel
      have HBR := Lib.hid hbr
      have HOW := Lib.hid how
      clear how
      by_cases hlt : k < n1
      · have hlt' : (k : Int) < n1 := by omega
        have hk0 : (0 : Int) ≤ k := by omega
        obtain ⟨ga, oa, hA, hca⟩ := HR1.out.below hbr
        obtain ⟨rfl, lga⟩ := hA (by rw [HL1.out]; omega)
        obtain ⟨p0, p1, p2, p3, p4, p5⟩ := hca k (by rw [HL1.out]; exact hlt)
        have HTK := Lib.hid (take_snocN (l := es1) (k := k) (by rw [HL1.out]; exact hlt))
        generalize es1.getD k Ent.none = E at *
        obtain ⟨e0, e1, e2, e3, e4, e5⟩ := E
        simp only at p0 p1 p2 p3 p4 p5
        have hkn : k + 1 ≤ 1000000 := by omega
        clear hA hca hbr
        go_wp2_with fail
        refine (of_any e0 e1 e2 e3 e4 e5 _).mono ?_
        rintro e w5 ⟨rfl, hb5⟩
        have how6 := (own_below HOW.out hb5).alloc (.cells #[.int .i64 e0, .int .i64 e1, .int .i64 e2, .int .i64 e3, .int .i64 e4, .int .i64 e5] 33)
        have hb5' := HBR.out.trans (hb5.mono HBR.out.size)
        have HB6 := Lib.hid (hb5'.alloc hb5'.size (.cells #[.int .i64 e0, .int .i64 e1, .int .i64 e2, .int .i64 e3, .int .i64 e4, .int .i64 e5] 33))
        have hro := rdeo_one w5 e0 e1 e2 e3 e4 e5 33
        clear p0 p1 p2 p3 p4 p5 hb5 hb5'
        go_wp2_with (at_builtin; refine wpList_append_ents rfl _ _ rfl rfl w.heap.size _ k (flat (es1.take k)) rfl how6 ⟨w5.heap.size, 0, none⟩ 1 1 [⟨e0, e1, e2, e3, e4, e5⟩] rfl rfl hro HB6.out.size hkn ?_; intro v7 w7 hown7 hg7; have HB7 := Lib.hid (Below.grown HB6.out hg7 HB6.out.size (fun q hq => (how6.lt q hq).1)))
        rw [← flat_append, ← HTK.out] at hown7
        have HO7 := Lib.hid hown7
        clear hown7 hg7 how6 hro
        go_wp2
        go_roundw
        case rel => exact ⟨k + 1, by omega, by go_num, HB7.out, HO7.out⟩
        case measure => simp [intOf]; omega
      · obtain rfl : n1 = k := by omega
        have hnn : ¬ (n1 : Int) < n1 := by omega
        have htk : es1.take n1 = es1 := List.take_of_length_le (by rw [HL1.out]; exact Nat.le_refl _)
        have how := HOW.out
        rw [htk] at how
        obtain ⟨_, A5, c5, rfl, _, hr5⟩ := rdeo_of_own how
        have HR5 := Lib.hid hr5
        clear how htk hr5 hbr HOW
        -- the entries are written, and read
        have HSC := Lib.hid (script_any A5 n1 c5 es1 wr (HT.out.below HBR.out) HR5.out HL1.out (by omega))
        go_wp2_with fail
        refine HSC.out.mono ?_
        rintro e w8 ⟨hsc, hb8⟩
        have HB8 := Lib.hid (HBR.out.trans (hb8.mono HBR.out.size))
        have HR58 := Lib.hid (HR5.out.below hb8)
        rcases hsc with ⟨ho, v, rfl, hown⟩ | ⟨i, b, h1, h2, h3, rfl, h4, h5⟩
        · have hall : ∀ e ∈ es1, e.may = true := mem_getD (no := Ent.none) (fun j hj => ho j (by rw [← HL1.out]; exact hj))
          obtain ⟨_, A8, c8, rfl, _, _, hr8, _⟩ := rdn_of_own hown
          have hz := enLn_len es1
          have hzl := HL1.out
          have HPC := Lib.hid (pscript_any A8 (enLn es1).length c8 (enLn es1) w8 (HT.out.below HB8.out) (Nat.le_trans HG.out HB8.out.size) hr8 rfl (by omega))
          rw [enLn_sp hall] at HPC
          clear hown hr8 ho
          go_wp2_with fail
          refine HPC.out.mono ?_
          rintro e w9 ⟨hpc, hb9⟩
          obtain ⟨v9, rfl, hown9⟩ := pa_fwd hpc (fun x hx => entP_iff.2 ⟨hall x hx, rfl⟩)
          rw [HL1.out] at hown9
          obtain ⟨_, A9, c9, rfl, _, hr9⟩ := rdeo_of_own hown9
          have HB9 := Lib.hid (HB8.out.trans (hb9.mono HB8.out.size))
          have HR9 := Lib.hid hr9
          have HR59 := Lib.hid (HR58.out.below hb9)
          clear hall hpc hown9 hr9 hb9 hz hzl
          go_wp2
          go_loopw [17] (fun i wr => ∃ k : Nat, k ≤ n1 ∧ i = .int .i64 k ∧ Below w9.heap.size w9 wr) (fun i _ => n1 - (intOf i).toNat)
          case atStart => exact ⟨0, Nat.zero_le _, rfl, Below.refl _ _⟩
          case round =>
            obtain ⟨k, hk, rfl, hbr⟩ := hrel
            by_cases hlt : k < n1
            · have hlt' : (k : Int) < n1 := by omega
              have hk0 : (0 : Int) ≤ k := by omega
              obtain ⟨ga, oa, hA, hca⟩ := HR9.out.below hbr
              obtain ⟨rfl, lga⟩ := hA (by rw [HL1.out]; omega)
              obtain ⟨gb, ob, hB, hcb⟩ := HR59.out.below hbr
              obtain ⟨rfl, lgb⟩ := hB (by rw [HL1.out]; omega)
              obtain ⟨p0, p1, p2, p3, p4, p5⟩ := hca k (by rw [HL1.out]; exact hlt)
              obtain ⟨q0, q1, q2, q3, q4, q5⟩ := hcb k (by rw [HL1.out]; exact hlt)
              generalize es1.getD k Ent.none = E at *
              obtain ⟨e0, e1, e2, e3, e4, e5⟩ := E
              simp only at p0 p1 p2 p3 p4 p5 q0 q1 q2 q3 q4 q5
              have HBR := Lib.hid hbr
              clear hA hB hca hcb hbr
              go_wp2
              go_quiet (fail)
              go_wp2
              go_roundw
              case rel => exact ⟨k + 1, by omega, by go_num, C20.below_drewN HBR.out _⟩
              case measure => simp [intOf]; omega
            · obtain rfl : k = n1 := by omega
              have hnn : ¬ (k : Int) < k := by omega
              have HBR := Lib.hid (HB9.out.trans (hbr.mono HB9.out.size))
              clear hbr
              -- what the lines say as events
              have HPD := Lib.hid (ptrace_any A2 n2 c2 bs wr (HT.out.below HBR.out) (Nat.le_trans HG.out HBR.out.size) (HR2.out.below HBR.out) HL2.out (by omega))
              go_wp2_with fail
              refine HPD.out.mono ?_
              rintro e w16 ⟨hpd, hb16⟩
              have HB16 := Lib.hid (HBR.out.trans (hb16.mono HBR.out.size))
              rcases hpd with ⟨ys, v, h1, h2, h3, rfl, hown⟩ | ⟨i, b, h1, h2, h3, h4, rfl, h5, h6⟩
              · obtain ⟨hall, hback⟩ := ev_back h1 h2 h3
                obtain ⟨_, A16, c16, rfl, _, hr16⟩ := C20.rde_of_own hown
                have hyl : ys.length ≤ 3000 := by
                  have := sp_length 10 bs
                  have hb := HL2.out
                  omega
                obtain ⟨ny, hny⟩ : ∃ ny, ys.length = ny := ⟨_, rfl⟩
                rw [hny] at hyl ⊢
                have HSD := Lib.hid (trace_any A16 ny c16 ys w16 (HT.out.below HB16.out) hr16 hny hyl)
                have HALL := Lib.hid hall
                have HBK := Lib.hid hback
                have HNY := Lib.hid hny
                clear h1 h2 h3 hown hr16 hall hback hny
                go_wp2_with fail
                refine HSD.out.mono ?_
                rintro e w17 ⟨hsd, hb17⟩
                have HB17 := Lib.hid (HB16.out.trans (hb17.mono HB16.out.size))
                rcases hsd with ⟨ho, v, rfl, hown⟩ | ⟨i, b, h1, h2, h3, _⟩
                · rw [HBK.out] at hown
                  obtain ⟨_, A17, c17, rfl, _, _, hr17, _⟩ := rdn_of_own hown
                  have hv1 := conv_bI (c := c17) hr17 rfl
                  have hv2 := conv_bI (c := c2) (HR2.out.below HB17.out) HL2.out
                  clear hown hr17 ho
                  -- what the lines say as entries
                  have HPE := Lib.hid (pscript_any A2 n2 c2 bs w17 (HT.out.below HB17.out) (Nat.le_trans HG.out HB17.out.size) (HR2.out.below HB17.out) HL2.out (by omega))
                  go_wp2_with fail
                  refine HPE.out.mono ?_
                  rintro e w20 ⟨hpe, hb20⟩
                  have HB20 := Lib.hid (HB17.out.trans (hb20.mono HB17.out.size))
                  rcases hpe with ⟨ys, v, h1, h2, h3, rfl, hown⟩ | ⟨i, b, h1, h2, h3, h4, rfl, h5, h6⟩
                  · obtain ⟨hall, hback⟩ := en_back h1 h2 h3
                    obtain ⟨_, A20, c20, rfl, _, hr20⟩ := rdeo_of_own hown
                    have hyl : ys.length ≤ 3000 := by
                      have := sp_length 10 bs
                      have hb := HL2.out
                      omega
                    obtain ⟨ny, hny⟩ : ∃ ny, ys.length = ny := ⟨_, rfl⟩
                    rw [hny] at hyl ⊢
                    have HSE := Lib.hid (script_any A20 ny c20 ys w20 (HT.out.below HB20.out) hr20 hny hyl)
                    have HALL := Lib.hid hall
                    have HBK := Lib.hid hback
                    have HNY := Lib.hid hny
                    clear h1 h2 h3 hown hr20 hall hback hny
                    go_wp2_with fail
                    refine HSE.out.mono ?_
                    rintro e w21 ⟨hse, hb21⟩
                    have HB21 := Lib.hid (HB20.out.trans (hb21.mono HB20.out.size))
                    rcases hse with ⟨ho, v, rfl, hown⟩ | ⟨i, b, h1, h2, h3, _⟩
                    · rw [HBK.out] at hown
                      obtain ⟨_, A21, c21, rfl, _, _, hr21, _⟩ := rdn_of_own hown
                      have hv1 := conv_bI (c := c21) hr21 rfl
                      have hv2 := conv_bI (c := c2) (HR2.out.below HB21.out) HL2.out
                      clear hown hr21 ho
                      go_wp2
                      go_ret
                      exact ⟨rfl, HB21.out⟩
                    · exfalso
                      have := HALL.out _ (by rw [List.getD_eq_getElem?_getD, List.getElem?_eq_getElem (by rw [HNY.out]; exact h1)] ; exact List.getElem_mem _ : ys.getD i Ent.none ∈ ys)
                      dsimp only at h3
                      rw [this] at h3
                      cases h3
                  · clear h1 h2 h3 h4 h5 h6
                    go_wp2
                    go_ret
                    exact ⟨rfl, HB20.out⟩
                · exfalso
                  have := HALL.out _ (by rw [List.getD_eq_getElem?_getD, List.getElem?_eq_getElem (by rw [HNY.out]; exact h1)] ; exact List.getElem_mem _ : ys.getD i C20.Ev.none ∈ ys)
                  dsimp only at h3
                  rw [this] at h3
                  cases h3
              · clear h1 h2 h3 h4 h5 h6
                -- what the lines say as entries
                have HPE := Lib.hid (pscript_any A2 n2 c2 bs w16 (HT.out.below HB16.out) (Nat.le_trans HG.out HB16.out.size) (HR2.out.below HB16.out) HL2.out (by omega))
                go_wp2_with fail
                refine HPE.out.mono ?_
                rintro e w20 ⟨hpe, hb20⟩
                have HB20 := Lib.hid (HB16.out.trans (hb20.mono HB16.out.size))
                rcases hpe with ⟨ys, v, h1, h2, h3, rfl, hown⟩ | ⟨i, b, h1, h2, h3, h4, rfl, h5, h6⟩
                · obtain ⟨hall, hback⟩ := en_back h1 h2 h3
                  obtain ⟨_, A20, c20, rfl, _, hr20⟩ := rdeo_of_own hown
                  have hyl : ys.length ≤ 3000 := by
                    have := sp_length 10 bs
                    have hb := HL2.out
                    omega
                  obtain ⟨ny, hny⟩ : ∃ ny, ys.length = ny := ⟨_, rfl⟩
                  rw [hny] at hyl ⊢
                  have HSE := Lib.hid (script_any A20 ny c20 ys w20 (HT.out.below HB20.out) hr20 hny hyl)
                  have HALL := Lib.hid hall
                  have HBK := Lib.hid hback
                  have HNY := Lib.hid hny
                  clear h1 h2 h3 hown hr20 hall hback hny
                  go_wp2_with fail
                  refine HSE.out.mono ?_
                  rintro e w21 ⟨hse, hb21⟩
                  have HB21 := Lib.hid (HB20.out.trans (hb21.mono HB20.out.size))
                  rcases hse with ⟨ho, v, rfl, hown⟩ | ⟨i, b, h1, h2, h3, _⟩
                  · rw [HBK.out] at hown
                    obtain ⟨_, A21, c21, rfl, _, _, hr21, _⟩ := rdn_of_own hown
                    have hv1 := conv_bI (c := c21) hr21 rfl
                    have hv2 := conv_bI (c := c2) (HR2.out.below HB21.out) HL2.out
                    clear hown hr21 ho
                    go_wp2
                    go_ret
                    exact ⟨rfl, HB21.out⟩
                  · exfalso
                    have := HALL.out _ (by rw [List.getD_eq_getElem?_getD, List.getElem?_eq_getElem (by rw [HNY.out]; exact h1)] ; exact List.getElem_mem _ : ys.getD i Ent.none ∈ ys)
                    dsimp only at h3
                    rw [this] at h3
                    cases h3
                · clear h1 h2 h3 h4 h5 h6
                  go_wp2
                  go_ret
                  exact ⟨rfl, HB20.out⟩
        · clear h1 h2 h3 h4 h5
          -- what the lines say as events
          have HPD := Lib.hid (ptrace_any A2 n2 c2 bs w8 (HT.out.below HB8.out) (Nat.le_trans HG.out HB8.out.size) (HR2.out.below HB8.out) HL2.out (by omega))
          go_wp2_with fail
          refine HPD.out.mono ?_
          rintro e w16 ⟨hpd, hb16⟩
          have HB16 := Lib.hid (HB8.out.trans (hb16.mono HB8.out.size))
          rcases hpd with ⟨ys, v, h1, h2, h3, rfl, hown⟩ | ⟨i, b, h1, h2, h3, h4, rfl, h5, h6⟩
          · obtain ⟨hall, hback⟩ := ev_back h1 h2 h3
            obtain ⟨_, A16, c16, rfl, _, hr16⟩ := C20.rde_of_own hown
            have hyl : ys.length ≤ 3000 := by
              have := sp_length 10 bs
              have hb := HL2.out
              omega
            obtain ⟨ny, hny⟩ : ∃ ny, ys.length = ny := ⟨_, rfl⟩
            rw [hny] at hyl ⊢
            have HSD := Lib.hid (trace_any A16 ny c16 ys w16 (HT.out.below HB16.out) hr16 hny hyl)
            have HALL := Lib.hid hall
            have HBK := Lib.hid hback
            have HNY := Lib.hid hny
            clear h1 h2 h3 hown hr16 hall hback hny
            go_wp2_with fail
            refine HSD.out.mono ?_
            rintro e w17 ⟨hsd, hb17⟩
            have HB17 := Lib.hid (HB16.out.trans (hb17.mono HB16.out.size))
            rcases hsd with ⟨ho, v, rfl, hown⟩ | ⟨i, b, h1, h2, h3, _⟩
            · rw [HBK.out] at hown
              obtain ⟨_, A17, c17, rfl, _, _, hr17, _⟩ := rdn_of_own hown
              have hv1 := conv_bI (c := c17) hr17 rfl
              have hv2 := conv_bI (c := c2) (HR2.out.below HB17.out) HL2.out
              clear hown hr17 ho
              -- what the lines say as entries
              have HPE := Lib.hid (pscript_any A2 n2 c2 bs w17 (HT.out.below HB17.out) (Nat.le_trans HG.out HB17.out.size) (HR2.out.below HB17.out) HL2.out (by omega))
              go_wp2_with fail
              refine HPE.out.mono ?_
              rintro e w20 ⟨hpe, hb20⟩
              have HB20 := Lib.hid (HB17.out.trans (hb20.mono HB17.out.size))
              rcases hpe with ⟨ys, v, h1, h2, h3, rfl, hown⟩ | ⟨i, b, h1, h2, h3, h4, rfl, h5, h6⟩
              · obtain ⟨hall, hback⟩ := en_back h1 h2 h3
                obtain ⟨_, A20, c20, rfl, _, hr20⟩ := rdeo_of_own hown
                have hyl : ys.length ≤ 3000 := by
                  have := sp_length 10 bs
                  have hb := HL2.out
                  omega
                obtain ⟨ny, hny⟩ : ∃ ny, ys.length = ny := ⟨_, rfl⟩
                rw [hny] at hyl ⊢
                have HSE := Lib.hid (script_any A20 ny c20 ys w20 (HT.out.below HB20.out) hr20 hny hyl)
                have HALL := Lib.hid hall
                have HBK := Lib.hid hback
                have HNY := Lib.hid hny
                clear h1 h2 h3 hown hr20 hall hback hny
                go_wp2_with fail
                refine HSE.out.mono ?_
                rintro e w21 ⟨hse, hb21⟩
                have HB21 := Lib.hid (HB20.out.trans (hb21.mono HB20.out.size))
                rcases hse with ⟨ho, v, rfl, hown⟩ | ⟨i, b, h1, h2, h3, _⟩
                · rw [HBK.out] at hown
                  obtain ⟨_, A21, c21, rfl, _, _, hr21, _⟩ := rdn_of_own hown
                  have hv1 := conv_bI (c := c21) hr21 rfl
                  have hv2 := conv_bI (c := c2) (HR2.out.below HB21.out) HL2.out
                  clear hown hr21 ho
                  go_wp2
                  go_ret
                  exact ⟨rfl, HB21.out⟩
                · exfalso
                  have := HALL.out _ (by rw [List.getD_eq_getElem?_getD, List.getElem?_eq_getElem (by rw [HNY.out]; exact h1)] ; exact List.getElem_mem _ : ys.getD i Ent.none ∈ ys)
                  dsimp only at h3
                  rw [this] at h3
                  cases h3
              · clear h1 h2 h3 h4 h5 h6
                go_wp2
                go_ret
                exact ⟨rfl, HB20.out⟩
            · exfalso
              have := HALL.out _ (by rw [List.getD_eq_getElem?_getD, List.getElem?_eq_getElem (by rw [HNY.out]; exact h1)] ; exact List.getElem_mem _ : ys.getD i C20.Ev.none ∈ ys)
              dsimp only at h3
              rw [this] at h3
              cases h3
          · clear h1 h2 h3 h4 h5 h6
            -- what the lines say as entries
            have HPE := Lib.hid (pscript_any A2 n2 c2 bs w16 (HT.out.below HB16.out) (Nat.le_trans HG.out HB16.out.size) (HR2.out.below HB16.out) HL2.out (by omega))
            go_wp2_with fail
            refine HPE.out.mono ?_
            rintro e w20 ⟨hpe, hb20⟩
            have HB20 := Lib.hid (HB16.out.trans (hb20.mono HB16.out.size))
            rcases hpe with ⟨ys, v, h1, h2, h3, rfl, hown⟩ | ⟨i, b, h1, h2, h3, h4, rfl, h5, h6⟩
            · obtain ⟨hall, hback⟩ := en_back h1 h2 h3
              obtain ⟨_, A20, c20, rfl, _, hr20⟩ := rdeo_of_own hown
              have hyl : ys.length ≤ 3000 := by
                have := sp_length 10 bs
                have hb := HL2.out
                omega
              obtain ⟨ny, hny⟩ : ∃ ny, ys.length = ny := ⟨_, rfl⟩
              rw [hny] at hyl ⊢
              have HSE := Lib.hid (script_any A20 ny c20 ys w20 (HT.out.below HB20.out) hr20 hny hyl)
              have HALL := Lib.hid hall
              have HBK := Lib.hid hback
              have HNY := Lib.hid hny
              clear h1 h2 h3 hown hr20 hall hback hny
              go_wp2_with fail
              refine HSE.out.mono ?_
              rintro e w21 ⟨hse, hb21⟩
              have HB21 := Lib.hid (HB20.out.trans (hb21.mono HB20.out.size))
              rcases hse with ⟨ho, v, rfl, hown⟩ | ⟨i, b, h1, h2, h3, _⟩
              · rw [HBK.out] at hown
                obtain ⟨_, A21, c21, rfl, _, _, hr21, _⟩ := rdn_of_own hown
                have hv1 := conv_bI (c := c21) hr21 rfl
                have hv2 := conv_bI (c := c2) (HR2.out.below HB21.out) HL2.out
                clear hown hr21 ho
                go_wp2
                go_ret
                exact ⟨rfl, HB21.out⟩
              · exfalso
                have := HALL.out _ (by rw [List.getD_eq_getElem?_getD, List.getElem?_eq_getElem (by rw [HNY.out]; exact h1)] ; exact List.getElem_mem _ : ys.getD i Ent.none ∈ ys)
                dsimp only at h3
                rw [this] at h3
                cases h3
            · clear h1 h2 h3 h4 h5 h6
              go_wp2
              go_ret
              exact ⟨rfl, HB20.out⟩
end Go.Proofs.YtjpjlfjaapfnkaaGreatDoor
namespace Go.Proofs.YtjpjlfjaapfnkaaGreatDoor
open Go.ChangeShapes Go.WideShapes Go.ChangeAt Go.RowKit
set_option linter.unusedVariables false
theorem rdn_row {k : IntKind} {w : World} {x : Addr} {len cap : Nat} {zs : List Int} (hlc : len ≤ cap) (hz : zs.length = cap) (hcell : ∀ i, i < zs.length → w.cell? (x.add i) = some (.int k (zs.getD i 0))) :
    RdN k w (some x) (zs.take len) ∧ (zs.take len).length = len := by
  have hl : (zs.take len).length = len := by rw [List.length_take]; omega
  refine ⟨?_, hl⟩
  rcases Nat.eq_zero_or_pos len with h0 | h0
  · subst h0; rw [List.take_zero]; exact rdn_nil _ _ _
  · obtain ⟨b, off, rfl, hc⟩ := ints_at hcell (by omega)
    refine ⟨b, off, fun _ => ⟨rfl, lt_of_cell (hc 0 (by omega))⟩, fun i hi => ?_⟩
    have hg : (zs.take len).getD i 0 = zs.getD i 0 := by
      rw [List.getD_eq_getElem?_getD, List.getD_eq_getElem?_getD, List.getElem?_take_of_lt (by omega)]
    rw [hg]; exact hc i (by omega)
theorem wf_u8 {z : Int} (h : (Lit.int .u8 z).wf = true) : 0 ≤ z ∧ z < 256 := by
  have := range_u8 (zs := [z]) (by simpa using h) 0
  simp at this
  omega
theorem bI_of {zs : List Int} (h : ∀ x ∈ zs, 0 ≤ x ∧ x < 256) : ∃ bs : List UInt8, bI bs = zs := by
  refine ⟨zs.map fun z => UInt8.ofNat z.toNat, ?_⟩
  unfold bI
  rw [List.map_map]
  conv => rhs; rw [← List.map_id zs]
  apply List.map_congr_left
  intro a ha
  have := h a ha
  simp only [Function.comp, id, UInt8.toNat_ofNat']
  omega
end Go.Proofs.YtjpjlfjaapfnkaaGreatDoor

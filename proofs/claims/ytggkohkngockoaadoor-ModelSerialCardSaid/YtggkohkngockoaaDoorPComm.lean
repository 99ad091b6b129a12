/-
  model.committed: a transaction is committed. No conditions.
-/
import Derived.Test.YtggkohkngockoaaDoorPOver
import Derived.Test.YtggkohkngockoaaDoorPClash
namespace Go.Proofs.YtggkohkngockoaaDoor
open Go.ChangeShapes Go.WideShapes Go.ChangeAt Go.RowKit Go.Maps
set_option linter.unusedVariables false
set_option linter.unusedSimpArgs false

theorem clash_st {w : World} {B : Nat} {tag : Nat → Nat} {g : Nat} {s : St} {bs : List Nat} {va vs : Value} {cs : Array Value} (h : StAt w B tag g s bs va vs cs) {i b j c : Nat} {x y : Tx} (hi : bs[i]? = some b) (hx : s.all[i]? = some x) (hj : bs[j]? = some c) (hy : s.all[j]? = some y) (h1 : x.got.length ≤ 1000) (h2 : y.got.length ≤ 1000) :
    Calls Tryd.prog 55 #[.pointer (some ⟨b, 0, none⟩), .pointer (some ⟨c, 0, none⟩)] w fun e w' => e = .returned (.bool (clashB x y)) ∧ Below w.heap.size w w' := by
  obtain ⟨_, A, c1, _, _, _, a2, _, _, _, _, _, _, a9, _, a11, _⟩ := (h.one hi hx).at
  obtain ⟨_, A', c1', _, _, _, b2, _, _, _, _, _, _, b9, _, b11, _⟩ := (h.one hj hy).at
  exact clash_any b c _ _ _ _ A A' x.got y.got x.fin y.fin w rfl rfl a9 b9 a2 b2 a11 b11 h1 h2

set_option maxHeartbeats 1000000 in
theorem comm_bad1 {w : World} {B : Nat} {tag : Nat → Nat} {g : Nat} {s : St} {bs : List Nat} {va vs : Value} {cs : Array Value} (h : StAt w B tag g s bs va vs cs) {i b : Nat} {x : Tx} (hi : bs[i]? = some b) (hx : s.all[i]? = some x) (ek ec ex et er em eq p : Int) (ho : x.opn = true) :
    Calls Tryd.prog 50 #[.pointer (some ⟨g, 0, none⟩), .pointer (some ⟨b, 0, none⟩), .agg #[.int .i64 ek, .int .i64 ec, .int .i64 ex, .int .i64 et, .int .i64 er, .int .i64 em, .int .i64 eq], .int .i64 p] w fun r w' => r = .returned (.iface 51 (.int .i64 11)) ∧ Below w.heap.size w w' := by
  obtain ⟨mb, A, c1, lb, c0, _, c2, c3, c4, _⟩ := (h.one hi hx).at
  have nb : ¬ b = w.heap.size := by omega
  have nb' : ¬ w.heap.size = b := by omega
  rw [ho] at c4
  clear ho h hi hx
  go_enter Tryd.func50, Tryd.ntmps50
  go_wp2
  go_ret
  exact ⟨rfl, by go_grown⟩
set_option maxHeartbeats 1000000 in
theorem comm_bad2 {w : World} {B : Nat} {tag : Nat → Nat} {g : Nat} {s : St} {bs : List Nat} {va vs : Value} {cs : Array Value} (h : StAt w B tag g s bs va vs cs) {i b : Nat} {x : Tx} (hi : bs[i]? = some b) (hx : s.all[i]? = some x) (ek ec ex et er em eq p : Int) (ho : x.opn = false) (hs : ¬ x.state = 2) (ha : x.asked = true) :
    Calls Tryd.prog 50 #[.pointer (some ⟨g, 0, none⟩), .pointer (some ⟨b, 0, none⟩), .agg #[.int .i64 ek, .int .i64 ec, .int .i64 ex, .int .i64 et, .int .i64 er, .int .i64 em, .int .i64 eq], .int .i64 p] w fun r w' => r = .returned (.iface 51 (.int .i64 11)) ∧ Below w.heap.size w w' := by
  obtain ⟨mb, A, c1, lb, c0, _, c2, c3, c4, _⟩ := (h.one hi hx).at
  have nb : ¬ b = w.heap.size := by omega
  have nb' : ¬ w.heap.size = b := by omega
  rw [ho] at c4
  rw [ha] at c3
  obtain ⟨st, hst⟩ : ∃ st, x.state = st := ⟨_, rfl⟩
  rw [hst] at c0 hs
  have hsb : (st != 2) = true := by simp; omega
  clear ho ha h hi hx hst
  go_enter Tryd.func50, Tryd.ntmps50
  go_wp2
  go_ret
  exact ⟨rfl, by go_grown⟩

/-- what comes of a commit: 8 (a clash) or 0 -/
def commE (s : St) (i : Nat) (x : Tx) (p : Int) : Int := if (s.serial.any fun n => clashB { x with fin := p } (St.tx ⟨s.all.set i { x with fin := p }, s.dead, s.now, s.serial⟩ n)) = true then 8 else 0
/-- those at whose place a clash would be found -/
def noClash (s : St) (y : Tx) (k : Nat) : Prop := ∀ q, q < k → clashB y (s.tx (s.serial.getD q 0)) = false
theorem int_info : (Tryd.prog.info? 3).map (fun i => (i.zero, i.size, i.bytes)) = some (some (.int .i64 0), 1, 8) := by kernel_rfl
theorem get_set' {l : List Tx} {i : Nat} {x y : Tx} (h : l[i]? = some x) : (l.set i y)[i]? = some y := by
  have := (List.getElem?_eq_some_iff.1 h).1
  simp [this]
theorem any_ser {s : St} {y : Tx} {q : Nat} (h : q < s.serial.length) (hc : clashB y (s.tx (s.serial.getD q 0)) = true) {l : List Int} (hl : s.serial = l) : (l.any fun n => clashB y (s.tx n)) = true := by
  subst hl
  rw [List.any_eq_true]
  refine ⟨s.serial.getD q 0, ?_, hc⟩
  rw [List.getD_eq_getElem?_getD, List.getElem?_eq_getElem h]
  exact List.getElem_mem h
theorem no_ser {s : St} {y : Tx} {q : Nat} (h : q = s.serial.length) (hc : noClash s y q) {l : List Int} (hl : s.serial = l) : (l.any fun n => clashB y (s.tx n)) = false := by
  subst hl
  rw [List.any_eq_false]
  intro n hn
  obtain ⟨k, hk, rfl⟩ := List.mem_iff_getElem.1 hn
  have := hc k (by omega)
  rw [List.getD_eq_getElem?_getD, List.getElem?_eq_getElem hk] at this
  simpa using this

set_option maxRecDepth 100000 in
set_option maxHeartbeats 4000000 in
theorem comm_go {w : World} {B : Nat} {tag : Nat → Nat} {g : Nat} {s : St} {bs : List Nat} {va vs : Value} {cs : Array Value} (h : StAt w B tag g s bs va vs cs) (hB : B ≤ w.heap.size) {i b : Nat} {x : Tx} (hi : bs[i]? = some b) (hx : s.all[i]? = some x) {n : Nat} (ho : TxOk x n) (hok : StOk s n) (hn : n ≤ 1000) (ek ec ex et er em eq p : Int) (h4 : x.opn = false) (h2 : x.state = 2 ∨ x.asked = false) :
    Calls Tryd.prog 50 #[.pointer (some ⟨g, 0, none⟩), .pointer (some ⟨b, 0, none⟩), .agg #[.int .i64 ek, .int .i64 ec, .int .i64 ex, .int .i64 et, .int .i64 er, .int .i64 em, .int .i64 eq], .int .i64 p] w fun r w' =>
      StepOf w w' B g (commE s i x p) ⟨s.all.set i { x with fin := p, state := 3 }, s.dead, off s.now x.client false, s.serial ++ [ex]⟩ r := by
  obtain ⟨mb, A, c1, lb, c0, _, c2, c3, c4, _⟩ := (h.one hi hx).at
  have nb : ¬ b = w.heap.size := by omega
  have nb' : ¬ w.heap.size = b := by omega
  have hf2 : w.frozen? ⟨b, 2, none⟩ = false := by obtain ⟨_, _, h1, _⟩ := h.one hi hx; exact heap_free h1
  have lg : g < w.heap.size := lt_of_block h.1
  have ng : ¬ g = w.heap.size := by omega
  have nbg := (h.ne hi hx).1
  have c19 := heap_cell h.1 (j := 19) h.2.2.2.1
  obtain ⟨_, _, cps, _, ⟨Sl, hvs⟩, _, _, _⟩ := own1_cell h.2.2.2.2.2.2.2.2.2.2.1
  obtain ⟨m, hm⟩ : ∃ m, s.serial.length = m := ⟨_, rfl⟩
  have hm1 : m ≤ 1000 := by have := hok.slen; omega
  rw [hm] at hvs
  have HVS := Lib.hid hvs
  rw [hvs] at c19
  have HM := Lib.hid hm
  have HH := Lib.hid h
  have HI := Lib.hid hi
  have HX := Lib.hid hx
  have HTO := Lib.hid ho
  have HOK := Lib.hid hok
  have HNE := Lib.hid (h.ne hi hx)
  rw [h4] at c4
  obtain ⟨st, hst⟩ : ∃ st, x.state = st := ⟨_, rfl⟩
  obtain ⟨ak, has⟩ : ∃ ak, x.asked = ak := ⟨_, rfl⟩
  rw [hst] at c0 h2
  rw [has] at c3 h2
  clear h hi hx ho hok h4 hvs hm hst has
  go_enter Tryd.func50, Tryd.ntmps50
  by_cases hs : st = 2
  · subst hs
    clear h2
    go_wp2
    generalize hw3 : (w.setCell ⟨b, 2, none⟩ (.int .i64 p)).alloc (.cells #[.int .i64 ek, .int .i64 ec, .int .i64 ex, .int .i64 et, .int .i64 er, .int .i64 em, .int .i64 eq] 43) = w3
    have hsw : (w.setCell ⟨b, 2, none⟩ (.int .i64 p)).heap.size = w.heap.size := size_set _ _ _
    have hS3 : StAt w3 B tag g ⟨s.all.set i { x with fin := p }, s.dead, s.now, s.serial⟩ bs va vs cs := by
      rw [← hw3]
      exact (HH.out.store (y := { x with fin := p }) HI.out HX.out 2 (.int .i64 p) (fun _ _ => rfl) rfl).below ((Below.refl _ _).alloc (Nat.le_refl _) _)
    have hb3 : Below B w w3 := by rw [← hw3]; exact ((Below.refl B w).setCell HNE.out.2.1 _).alloc (by rw [hsw]; exact hB) _
    have hs3 : w3.heap.size = w.heap.size + 1 := by rw [← hw3]; simp
    have he3 : w3.cell? ⟨w.heap.size, 2, none⟩ = some (.int .i64 ex) := heap_cell (cs := #[.int .i64 ek, .int .i64 ec, .int .i64 ex, .int .i64 et, .int .i64 er, .int .i64 em, .int .i64 eq]) (t := 43) (by rw [← hw3, heap_push, if_pos hsw.symm]) rfl
    clear hsw
    obtain ⟨s3, hs3e⟩ : ∃ s3, (⟨s.all.set i { x with fin := p }, s.dead, s.now, s.serial⟩ : St) = s3 := ⟨_, rfl⟩
    have HS3E := Lib.hid hs3e
    rw [hs3e] at hS3
    have hser3 : s3.serial = s.serial := by rw [← hs3e]
    have hlen3 : s3.all.length = s.all.length := by rw [← hs3e]; simp
    have HSER := Lib.hid hser3
    have HLEN := Lib.hid hlen3
    have HS3 := Lib.hid hS3
    have HB3 := Lib.hid hb3
    have HSZ := Lib.hid hs3
    have HE3 := Lib.hid he3
    clear hw3 hS3 hb3 hs3 he3 hs3e hser3 hlen3
    go_loopw [38] (fun k wr => ∃ q : Nat, q ≤ m ∧ k = .int .i64 q ∧ Below w3.heap.size w3 wr ∧ noClash s3 { x with fin := p } q) (fun k _ => m - (intOf k).toNat)
    case atStart => exact ⟨0, Nat.zero_le _, rfl, Below.refl _ _, fun q hq => absurd hq (Nat.not_lt_zero _)⟩
    case round =>
      obtain ⟨q, hq, rfl, hbr, hno⟩ := hrel
      have HNO := Lib.hid hno
      clear hno
      have hSr := HS3.out.below hbr
      by_cases hlt : q < m
      · have hlt' : (q : Int) < m := by omega
        obtain ⟨_, gs, cp, hvs, _, _, _, hcell⟩ := own1_cell hSr.2.2.2.2.2.2.2.2.2.2.1
        have hml : s3.serial.length = m := by rw [HSER.out]; exact HM.out
        rw [hml] at hvs
        obtain ⟨hvs1, lgs⟩ := hvs (by omega)
        have hvs2 := HVS.out
        rw [hvs1] at hvs2
        obtain ⟨rfl, rfl⟩ : Sl = some ⟨gs, 0, none⟩ ∧ cps = cp := by
          simp at hvs2
          exact ⟨hvs2.1.symm, hvs2.2.symm⟩
        have hmem : s3.serial.getD q 0 ∈ s.serial := by
          rw [HSER.out, List.getD_eq_getElem?_getD, List.getElem?_eq_getElem (by have := HM.out; omega)]
          exact List.getElem_mem _
        have hrg := HOK.out.ser _ hmem
        obtain ⟨j, hj⟩ : ∃ j : Nat, s3.serial.getD q 0 = (j : Int) + 1 := ⟨(s3.serial.getD q 0 - 1).toNat, by omega⟩
        rw [hj] at hrg
        have c5 := hcell q (.int .i64 ((j : Int) + 1)) (by rw [numV_get (by omega), hj])
        obtain ⟨y, hy⟩ : ∃ y, s3.all[j]? = some y := ⟨_, List.getElem?_eq_getElem (by rw [HLEN.out]; omega)⟩
        have hlb : bs.length = s3.all.length := hSr.lens
        obtain ⟨bj, hbj⟩ : ∃ bj, bs[j]? = some bj := ⟨_, List.getElem?_eq_getElem (by rw [hlb, HLEN.out]; omega)⟩
        obtain ⟨_, ga, cpa, hva, _, _, _, hcella⟩ := own1_cell hSr.2.2.2.2.2.2.2.2.1
        obtain ⟨hva1, lga⟩ := hva (by rw [hlb, HLEN.out]; omega)
        have c6 := hcella j (.pointer (some ⟨bj, 0, none⟩)) (by unfold ptrV; rw [List.getElem?_map, hbj]; rfl)
        have c7 := heap_cell hSr.1 (j := 0) hSr.2.2.1
        rw [hva1] at c7
        obtain ⟨nl, hnl⟩ : ∃ nl, bs.length = nl := ⟨_, rfl⟩
        rw [hnl] at c7
        have hjn : (j : Int) < nl := by rw [← hnl, hlb, HLEN.out]; omega
        have hnl2 : nl ≤ 100000 := by have := HOK.out.len; rw [← hnl, hlb, HLEN.out]; omega
        have hlx : ({ x with fin := p } : Tx).got.length ≤ 1000 := by have := HTO.out.len; show x.got.length ≤ 1000; omega
        have hxy : s3.all[i]? = some { x with fin := p } := by rw [← HS3E.out]; exact get_set' HX.out
        have hly : y.got.length ≤ 1000 := by
          rw [← HS3E.out] at hy
          simp only [List.getElem?_set] at hy
          split at hy
          · split at hy
            · cases hy; exact hlx
            · cases hy
          · have := (HOK.out.tx j y hy).len; omega
        have hty : s3.tx (s3.serial.getD q 0) = y := by
          rw [hj]; unfold St.tx
          rw [List.getD_eq_getElem?_getD, show ((j : Int) + 1 - 1).toNat = j by omega, hy]; rfl
        have HC := Lib.hid (clash_st hSr HI.out hxy hbj hy hlx hly)
        have HTY := Lib.hid hty
        have HMM := Lib.hid hml
        have HSr := Lib.hid hSr
        clear hSr hcell hcella hvs hva hvs1 hva1 hvs2 hmem hj hy hbj hlb hnl hty hxy hly hlx hml
        cases hcl : clashB { x with fin := p } y with
        | true =>
          have HCL := Lib.hid hcl
          rw [hcl] at HC
          clear hcl
          go_wp2_with (go_at_call 55; refine HC.out.mono ?_; rintro e w5 ⟨rfl, hb5⟩)
          go_ret
          have h8 : commE s i x p = 8 := by
            unfold commE
            rw [HS3E.out, if_pos (any_ser (s := s3) (q := q) (by rw [HMM.out]; exact hlt) (by rw [HTY.out]; exact HCL.out) HSER.out)]
          rw [h8]
          exact ⟨rfl, HB3.out.trans ((hbr.trans (hb5.mono hbr.size)).mono (by have := HSZ.out; omega)), fun h0 => absurd h0 (by decide)⟩
        | false =>
          have HCL := Lib.hid hcl
          rw [hcl] at HC
          clear hcl
          go_wp2_with (go_at_call 55; refine HC.out.mono ?_; rintro e w5 ⟨rfl, hb5⟩)
          go_roundw
          case rel => exact ⟨q + 1, by omega, by go_num, hbr.trans (hb5.mono hbr.size), fun k hk => by
            rcases Nat.lt_or_ge k q with h1 | h1
            · exact HNO.out k h1
            · rw [show k = q by omega, HTY.out]; exact HCL.out⟩
          case measure => simp [intOf]; omega
      · have hqm : q = m := by omega
        subst hqm
        have hge : ¬ (q : Int) < q := by omega
        have h0 : commE s i x p = 0 := by
          unfold commE
          rw [HS3E.out, no_ser (s := s3) (q := q) (by rw [HSER.out]; exact HM.out.symm) HNO.out HSER.out]; rfl
        have H0 := Lib.hid h0
        clear h0
        go_wp2_with fail
        have hvc := heap_cell hSr.1 (j := 19) hSr.2.2.2.1
        rw [HVS.out] at hvc
        have hgB := HH.out.gB
        have hvg : Value.ownBlock (.slice Sl q cps) ≠ some g := fun e => by
          have e1 := HH.out.2.2.2.2.2.2.2.2.2.2.2.1 g (by rw [HVS.out]; exact e)
          have e2 := HH.out.gtag
          omega
        have lgr : g < wr.heap.size := lt_of_block hSr.1
        have sz3 := HSZ.out
        have szr := hbr.size
        have hvw : Value.ownBlock (.slice Sl q cps) ≠ some w.heap.size := fun e => by
          have := (HH.out.2.2.2.2.2.2.2.2.2.2.1.lt w.heap.size (by rw [HVS.out]; exact e)).2
          omega
        have hown : wr.ownsRow B 3 1 (.slice Sl q cps) q (numV .i64 s.serial) := by
          have := hSr.2.2.2.2.2.2.2.2.2.2.1
          rw [HSER.out, HM.out, HVS.out] at this
          exact this
        have G2 := cell_keep hbr HE3.out
        have lwr : w.heap.size < wr.heap.size := by omega
        have ngr : ¬ g = wr.heap.size := by omega
        have nwr : ¬ w.heap.size = wr.heap.size := by omega
        have hBr : B ≤ wr.heap.size := by omega
        obtain ⟨i0, hi0, hz0, hz1, hz2⟩ := info_parts int_info
        have HVG := Lib.hid hvg
        have HVW := Lib.hid hvw
        have HOW := Lib.hid hown
        have HSR := Lib.hid hSr
        have HGB := Lib.hid hSr.1
        have HBr : Hid (Below B w wr) := Lib.hid (HB3.out.trans (hbr.mono (by omega)))
        clear hvg hvw hown hSr hge hbr HNO szr sz3
        refine wp_region_N (S := (fun w' => w'.cell? ⟨w.heap.size, 2, none⟩ = some (.int .i64 ex) ∧ w'.cell? ⟨g, 19, none⟩ = some (.slice Sl q cps))) (fun i => !(i == 11)) (by kernel_rfl) ?_ (fun hHeld => ?_)
        · (try dsimp only)
          first
            | (refine ⟨?_, ?_⟩ <;> assumption)
            | (refine ⟨cell_keep ?_ G2, cell_keep ?_ hvc⟩ <;> (go_grown; done))
        refine wpAnyN_take [9, 10, 11] (i := 0) (v := ?_) rfl (by kernel_rfl) (by kernel_rfl) (by kernel_rfl) (by kernel_rfl) (by kernel_rfl) (fun _ _ _ h => h) (Or.inl ⟨by first | kernel_rfl | rfl, ?_⟩) (by assumption) ?_
        rotate_left
        focus
          intro w hSw
          (try dsimp only at hSw)
          go_simp
          try with_reducible rfl
        (try change wpAnyN _ _ _ _ _ _ _ _ (Act.put _ (some 54) _) _)
        try (unfold Act.put; dsimp only)
        refine wpAnyN_take [2, 3, 4, 8, 9, 10, 11] (i := 1) (v := ?_) rfl (by kernel_rfl) (by kernel_rfl) (by kernel_rfl) (by kernel_rfl) (by kernel_rfl) (fun _ _ _ h => h) (Or.inl ⟨by first | kernel_rfl | rfl, ?_⟩) (by assumption) ?_
        rotate_left
        focus
          intro w hSw
          (try dsimp only at hSw)
          go_simp
          try with_reducible rfl
        (try change wpAnyN _ _ _ _ _ _ _ _ (Act.put _ (some 55) _) _)
        try (unfold Act.put; dsimp only)
        refine wpAnyN_take [3, 4, 8, 9, 10, 11] (i := 2) (v := ?_) rfl (by kernel_rfl) (by kernel_rfl) (by kernel_rfl) (by kernel_rfl) (by kernel_rfl) (fun _ _ _ h => h) (Or.inl ⟨by first | kernel_rfl | rfl, ?_⟩) (by assumption) ?_
        rotate_left
        focus
          intro w hSw
          (try dsimp only at hSw)
          go_simp
          try with_reducible rfl
        (try change wpAnyN _ _ _ _ _ _ _ _ (Act.put _ (some 56) _) _)
        try (unfold Act.put; dsimp only)
        refine wpAnyN_take [4, 8, 9, 10, 11] (i := 3) (v := ?_) rfl (by kernel_rfl) (by kernel_rfl) (by kernel_rfl) (by kernel_rfl) (by kernel_rfl) (fun _ _ _ h => h) (Or.inl ⟨by first | kernel_rfl | rfl, ?_⟩) (by assumption) ?_
        rotate_left
        focus
          intro w hSw
          (try dsimp only at hSw)
          go_simp
          try with_reducible rfl
        (try change wpAnyN _ _ _ _ _ _ _ _ (Act.put _ (some 57) _) _)
        try (unfold Act.put; dsimp only)
        refine wpAnyN_take [8, 9, 10, 11] (i := 4) (v := ?_) rfl (by kernel_rfl) (by kernel_rfl) (by kernel_rfl) (by kernel_rfl) (by kernel_rfl) (fun _ _ _ h => h) (Or.inl ⟨by first | kernel_rfl | rfl, ?_⟩) (by assumption) ?_
        rotate_left
        focus
          intro w hSw
          (try dsimp only at hSw)
          go_simp
          try with_reducible rfl
        (try change wpAnyN _ _ _ _ _ _ _ _ (Act.put _ (some 58) _) _)
        try (unfold Act.put; dsimp only)
        refine wpAnyN_take [6, 7, 8, 9, 10, 11] (i := 5) (v := ?_) rfl (by kernel_rfl) (by kernel_rfl) (by kernel_rfl) (by kernel_rfl) (by kernel_rfl) (fun _ _ _ h => h) (Or.inl ⟨by first | kernel_rfl | rfl, ?_⟩) (by assumption) ?_
        rotate_left
        focus
          intro w hSw
          (try dsimp only at hSw)
          go_simp
          try with_reducible rfl
        (try change wpAnyN _ _ _ _ _ _ _ _ (Act.put _ (some 59) _) _)
        try (unfold Act.put; dsimp only)
        refine wpAnyN_take [7, 8, 9, 10, 11] (i := 6) (v := ?_) rfl (by kernel_rfl) (by kernel_rfl) (by kernel_rfl) (by kernel_rfl) (by kernel_rfl) (fun _ _ _ h => h) (Or.inl ⟨by first | kernel_rfl | rfl, ?_⟩) (by assumption) ?_
        rotate_left
        focus
          intro w hSw
          (try dsimp only at hSw)
          go_simp
          try with_reducible rfl
        (try change wpAnyN _ _ _ _ _ _ _ _ (Act.put _ (some 60) _) _)
        try (unfold Act.put; dsimp only)
        refine wpAnyN_ready (rs := [7]) (by kernel_rfl) (by simp) ?_
        refine AllReadyN.cons rfl (fun K hK => ?_) ?_
        · go_simp
          refine hK.out _ _ ?_ (fun hHeld => ?_)
          · (try dsimp only)
            first
              | (refine ⟨?_, ?_⟩ <;> assumption)
              | (refine ⟨cell_keep ?_ G2, cell_keep ?_ hvc⟩ <;> (go_grown; done))
          clear hK K
          (try change wpAnyN _ _ _ _ _ _ _ _ (Act.put _ (some 61) _) _)
          try (unfold Act.put; dsimp only)
          refine wpAnyN_ready (rs := [8]) (by kernel_rfl) (by simp) ?_
          refine AllReadyN.cons rfl (fun K hK => ?_) ?_
          · refine step_append_lies _ (by rfl) _ _ _ (by rfl) B 3 i0 _ 1 8 Tryd.underlying27 hi0 hz0 hz1 hz2 rfl (by decide) (.slice Sl q cps) q (numV .i64 s.serial) (by rfl) (own_below HOW.out (by go_grown)) _ 1 1 [.int .i64 ex] (by rfl) (by rfl) (World.news_of_block (cs := #[.int .i64 ex]) (t := 3) (fr := (0, 0)) (by (repeat (first | rw [heap_drew] | rw [heap_push])); simp)) (by simp [Value.oneCell']) (by decide) (by unfold maxLen; omega) (by omega) (by simp <;> omega) _ rfl ?_
            intro gg cap w7 hown7 hgrow hat hlt7
            have h7 := append_keep hgrow (by go_grown) HGB.out HVG.out
            have y2 := append_cell hgrow (by go_grown) G2 HVW.out
            have k7 := heap_cell h7 (j := 19) (u := .slice Sl q cps) (by rw [← HVS.out]; exact HSR.out.2.2.2.1)
            have kf7 := heap_free h7 (j := 19)
            have HBW7 : Hid (Below B w w7) := Lib.hid (append_below hgrow (by go_grown) HBr.out (by omega) (fun k hk => (HOW.out.lt k hk).1))
            have HST : Hid (∃ tag' cs', StAt (w7.setCell ⟨g, 19, none⟩ (.slice (some ⟨gg, 0, none⟩) (q + 1) cap)) B tag' g ⟨s3.all, s3.dead, s3.now, s.serial ++ [ex]⟩ bs va (.slice (some ⟨gg, 0, none⟩) (q + 1) cap) cs') := Lib.hid (by
              refine StAt.setSer (HSR.out.below (show Below wr.heap.size wr (wr.alloc (.cells #[.int .i64 ex] 3)).drew by go_grown)) (by rw [HVS.out]; exact hgrow) (by rw [List.length_append, HM.out]; simpa [numV] using hown7) ?_
              intro k hk
              rw [HVS.out]
              simp [Value.ownBlock] at hk
              subst hk
              rcases hat with h | h
              · exact .inl h
              · right; rw [h]; exact Nat.le_refl _)
            have H7 := Lib.hid h7
            clear h7 hgrow hown7
            refine hK.out _ _ ?_ (fun hHeld => ?_)
            · (try dsimp only)
              first
                | (refine ⟨?_, ?_⟩ <;> assumption)
                | (refine ⟨cell_keep ?_ G2, cell_keep ?_ hvc⟩ <;> (go_grown; done))
            clear hK K
            (try change wpAnyN _ _ _ _ _ _ _ _ (Act.put _ (some 62) _) _)
            try (unfold Act.put; dsimp only)
            refine wpAnyN_take [10, 11] (i := 9) (v := ?_) rfl (by kernel_rfl) (by kernel_rfl) (by kernel_rfl) (by kernel_rfl) (by kernel_rfl) (fun _ _ _ h => h) (Or.inl ⟨by first | kernel_rfl | rfl, ?_⟩) (by assumption) ?_
            rotate_left
            focus
              intro w hSw
              (try dsimp only at hSw)
              go_simp
              try with_reducible rfl
            (try change wpAnyN _ _ _ _ _ _ _ _ (Act.put _ (some 63) _) _)
            try (unfold Act.put; dsimp only)
            refine wpAnyN_take [11] (i := 10) (v := ?_) rfl (by kernel_rfl) (by kernel_rfl) (by kernel_rfl) (by kernel_rfl) (by kernel_rfl) (fun _ _ _ h => h) (Or.inl ⟨by first | kernel_rfl | rfl, ?_⟩) (by assumption) ?_
            rotate_left
            focus
              intro w hSw
              (try dsimp only at hSw)
              go_simp
              try with_reducible rfl
            (try change wpAnyN _ _ _ _ _ _ _ _ (Act.put _ (some 64) _) _)
            try (unfold Act.put; dsimp only)
            refine wpAnyN_ready (rs := [11]) (by kernel_rfl) (by simp) ?_
            refine AllReadyN.last rfl rfl (fun K hK => ?_) ?_
            · go_simp
              refine hK.out _ _ ?_
              clear hK K
              try (unfold Act.put; dsimp only)
              refine wpAnyN_done (by kernel_rfl) ?_ _
              obtain ⟨tag', cs', hF⟩ := HST.out
              have hxF : s3.all[i]? = some { x with fin := p } := by rw [← HS3E.out]; exact get_set' HX.out
              have HO := Lib.hid (over_st hF HI.out hxF (by exact HTO.out.client))
              have HBF : Hid (Below B w (w7.setCell ⟨g, 19, none⟩ (.slice (some ⟨gg, 0, none⟩) (q + 1) cap))) := Lib.hid (HBW7.out.setCell hgB _)
              clear hF hxF
              go_wp2_with (go_at_call 51; refine HO.out.mono ?_; rintro e w9 ⟨rfl, hS9, hb9⟩)
              go_ret
              rw [H0.out]
              refine step_ok (tag := tag') (HBF.out.trans hb9) rfl ?_
              rw [← HS3E.out] at hS9
              simpa using hS9
            exact AllReadyN.nil
          exact AllReadyN.nil
        exact AllReadyN.nil
  · have hak : ak = false := by rcases h2 with h | h; exact absurd h hs; exact h
    subst hak
    have hsb : (st != 2) = true := by simp; omega
    clear h2
    go_wp2
    generalize hw3 : (w.setCell ⟨b, 2, none⟩ (.int .i64 p)).alloc (.cells #[.int .i64 ek, .int .i64 ec, .int .i64 ex, .int .i64 et, .int .i64 er, .int .i64 em, .int .i64 eq] 43) = w3
    have hsw : (w.setCell ⟨b, 2, none⟩ (.int .i64 p)).heap.size = w.heap.size := size_set _ _ _
    have hS3 : StAt w3 B tag g ⟨s.all.set i { x with fin := p }, s.dead, s.now, s.serial⟩ bs va vs cs := by
      rw [← hw3]
      exact (HH.out.store (y := { x with fin := p }) HI.out HX.out 2 (.int .i64 p) (fun _ _ => rfl) rfl).below ((Below.refl _ _).alloc (Nat.le_refl _) _)
    have hb3 : Below B w w3 := by rw [← hw3]; exact ((Below.refl B w).setCell HNE.out.2.1 _).alloc (by rw [hsw]; exact hB) _
    have hs3 : w3.heap.size = w.heap.size + 1 := by rw [← hw3]; simp
    have he3 : w3.cell? ⟨w.heap.size, 2, none⟩ = some (.int .i64 ex) := heap_cell (cs := #[.int .i64 ek, .int .i64 ec, .int .i64 ex, .int .i64 et, .int .i64 er, .int .i64 em, .int .i64 eq]) (t := 43) (by rw [← hw3, heap_push, if_pos hsw.symm]) rfl
    clear hsw
    obtain ⟨s3, hs3e⟩ : ∃ s3, (⟨s.all.set i { x with fin := p }, s.dead, s.now, s.serial⟩ : St) = s3 := ⟨_, rfl⟩
    have HS3E := Lib.hid hs3e
    rw [hs3e] at hS3
    have hser3 : s3.serial = s.serial := by rw [← hs3e]
    have hlen3 : s3.all.length = s.all.length := by rw [← hs3e]; simp
    have HSER := Lib.hid hser3
    have HLEN := Lib.hid hlen3
    have HS3 := Lib.hid hS3
    have HB3 := Lib.hid hb3
    have HSZ := Lib.hid hs3
    have HE3 := Lib.hid he3
    clear hw3 hS3 hb3 hs3 he3 hs3e hser3 hlen3
    go_loopw [38] (fun k wr => ∃ q : Nat, q ≤ m ∧ k = .int .i64 q ∧ Below w3.heap.size w3 wr ∧ noClash s3 { x with fin := p } q) (fun k _ => m - (intOf k).toNat)
    case atStart => exact ⟨0, Nat.zero_le _, rfl, Below.refl _ _, fun q hq => absurd hq (Nat.not_lt_zero _)⟩
    case round =>
      obtain ⟨q, hq, rfl, hbr, hno⟩ := hrel
      have HNO := Lib.hid hno
      clear hno
      have hSr := HS3.out.below hbr
      by_cases hlt : q < m
      · have hlt' : (q : Int) < m := by omega
        obtain ⟨_, gs, cp, hvs, _, _, _, hcell⟩ := own1_cell hSr.2.2.2.2.2.2.2.2.2.2.1
        have hml : s3.serial.length = m := by rw [HSER.out]; exact HM.out
        rw [hml] at hvs
        obtain ⟨hvs1, lgs⟩ := hvs (by omega)
        have hvs2 := HVS.out
        rw [hvs1] at hvs2
        obtain ⟨rfl, rfl⟩ : Sl = some ⟨gs, 0, none⟩ ∧ cps = cp := by
          simp at hvs2
          exact ⟨hvs2.1.symm, hvs2.2.symm⟩
        have hmem : s3.serial.getD q 0 ∈ s.serial := by
          rw [HSER.out, List.getD_eq_getElem?_getD, List.getElem?_eq_getElem (by have := HM.out; omega)]
          exact List.getElem_mem _
        have hrg := HOK.out.ser _ hmem
        obtain ⟨j, hj⟩ : ∃ j : Nat, s3.serial.getD q 0 = (j : Int) + 1 := ⟨(s3.serial.getD q 0 - 1).toNat, by omega⟩
        rw [hj] at hrg
        have c5 := hcell q (.int .i64 ((j : Int) + 1)) (by rw [numV_get (by omega), hj])
        obtain ⟨y, hy⟩ : ∃ y, s3.all[j]? = some y := ⟨_, List.getElem?_eq_getElem (by rw [HLEN.out]; omega)⟩
        have hlb : bs.length = s3.all.length := hSr.lens
        obtain ⟨bj, hbj⟩ : ∃ bj, bs[j]? = some bj := ⟨_, List.getElem?_eq_getElem (by rw [hlb, HLEN.out]; omega)⟩
        obtain ⟨_, ga, cpa, hva, _, _, _, hcella⟩ := own1_cell hSr.2.2.2.2.2.2.2.2.1
        obtain ⟨hva1, lga⟩ := hva (by rw [hlb, HLEN.out]; omega)
        have c6 := hcella j (.pointer (some ⟨bj, 0, none⟩)) (by unfold ptrV; rw [List.getElem?_map, hbj]; rfl)
        have c7 := heap_cell hSr.1 (j := 0) hSr.2.2.1
        rw [hva1] at c7
        obtain ⟨nl, hnl⟩ : ∃ nl, bs.length = nl := ⟨_, rfl⟩
        rw [hnl] at c7
        have hjn : (j : Int) < nl := by rw [← hnl, hlb, HLEN.out]; omega
        have hnl2 : nl ≤ 100000 := by have := HOK.out.len; rw [← hnl, hlb, HLEN.out]; omega
        have hlx : ({ x with fin := p } : Tx).got.length ≤ 1000 := by have := HTO.out.len; show x.got.length ≤ 1000; omega
        have hxy : s3.all[i]? = some { x with fin := p } := by rw [← HS3E.out]; exact get_set' HX.out
        have hly : y.got.length ≤ 1000 := by
          rw [← HS3E.out] at hy
          simp only [List.getElem?_set] at hy
          split at hy
          · split at hy
            · cases hy; exact hlx
            · cases hy
          · have := (HOK.out.tx j y hy).len; omega
        have hty : s3.tx (s3.serial.getD q 0) = y := by
          rw [hj]; unfold St.tx
          rw [List.getD_eq_getElem?_getD, show ((j : Int) + 1 - 1).toNat = j by omega, hy]; rfl
        have HC := Lib.hid (clash_st hSr HI.out hxy hbj hy hlx hly)
        have HTY := Lib.hid hty
        have HMM := Lib.hid hml
        have HSr := Lib.hid hSr
        clear hSr hcell hcella hvs hva hvs1 hva1 hvs2 hmem hj hy hbj hlb hnl hty hxy hly hlx hml
        cases hcl : clashB { x with fin := p } y with
        | true =>
          have HCL := Lib.hid hcl
          rw [hcl] at HC
          clear hcl
          go_wp2_with (go_at_call 55; refine HC.out.mono ?_; rintro e w5 ⟨rfl, hb5⟩)
          go_ret
          have h8 : commE s i x p = 8 := by
            unfold commE
            rw [HS3E.out, if_pos (any_ser (s := s3) (q := q) (by rw [HMM.out]; exact hlt) (by rw [HTY.out]; exact HCL.out) HSER.out)]
          rw [h8]
          exact ⟨rfl, HB3.out.trans ((hbr.trans (hb5.mono hbr.size)).mono (by have := HSZ.out; omega)), fun h0 => absurd h0 (by decide)⟩
        | false =>
          have HCL := Lib.hid hcl
          rw [hcl] at HC
          clear hcl
          go_wp2_with (go_at_call 55; refine HC.out.mono ?_; rintro e w5 ⟨rfl, hb5⟩)
          go_roundw
          case rel => exact ⟨q + 1, by omega, by go_num, hbr.trans (hb5.mono hbr.size), fun k hk => by
            rcases Nat.lt_or_ge k q with h1 | h1
            · exact HNO.out k h1
            · rw [show k = q by omega, HTY.out]; exact HCL.out⟩
          case measure => simp [intOf]; omega
      · have hqm : q = m := by omega
        subst hqm
        have hge : ¬ (q : Int) < q := by omega
        have h0 : commE s i x p = 0 := by
          unfold commE
          rw [HS3E.out, no_ser (s := s3) (q := q) (by rw [HSER.out]; exact HM.out.symm) HNO.out HSER.out]; rfl
        have H0 := Lib.hid h0
        clear h0
        go_wp2_with fail
        have hvc := heap_cell hSr.1 (j := 19) hSr.2.2.2.1
        rw [HVS.out] at hvc
        have hgB := HH.out.gB
        have hvg : Value.ownBlock (.slice Sl q cps) ≠ some g := fun e => by
          have e1 := HH.out.2.2.2.2.2.2.2.2.2.2.2.1 g (by rw [HVS.out]; exact e)
          have e2 := HH.out.gtag
          omega
        have lgr : g < wr.heap.size := lt_of_block hSr.1
        have sz3 := HSZ.out
        have szr := hbr.size
        have hvw : Value.ownBlock (.slice Sl q cps) ≠ some w.heap.size := fun e => by
          have := (HH.out.2.2.2.2.2.2.2.2.2.2.1.lt w.heap.size (by rw [HVS.out]; exact e)).2
          omega
        have hown : wr.ownsRow B 3 1 (.slice Sl q cps) q (numV .i64 s.serial) := by
          have := hSr.2.2.2.2.2.2.2.2.2.2.1
          rw [HSER.out, HM.out, HVS.out] at this
          exact this
        have G2 := cell_keep hbr HE3.out
        have lwr : w.heap.size < wr.heap.size := by omega
        have ngr : ¬ g = wr.heap.size := by omega
        have nwr : ¬ w.heap.size = wr.heap.size := by omega
        have hBr : B ≤ wr.heap.size := by omega
        obtain ⟨i0, hi0, hz0, hz1, hz2⟩ := info_parts int_info
        have HVG := Lib.hid hvg
        have HVW := Lib.hid hvw
        have HOW := Lib.hid hown
        have HSR := Lib.hid hSr
        have HGB := Lib.hid hSr.1
        have HBr : Hid (Below B w wr) := Lib.hid (HB3.out.trans (hbr.mono (by omega)))
        clear hvg hvw hown hSr hge hbr HNO szr sz3
        refine wp_region_N (S := (fun w' => w'.cell? ⟨w.heap.size, 2, none⟩ = some (.int .i64 ex) ∧ w'.cell? ⟨g, 19, none⟩ = some (.slice Sl q cps))) (fun i => !(i == 11)) (by kernel_rfl) ?_ (fun hHeld => ?_)
        · (try dsimp only)
          first
            | (refine ⟨?_, ?_⟩ <;> assumption)
            | (refine ⟨cell_keep ?_ G2, cell_keep ?_ hvc⟩ <;> (go_grown; done))
        refine wpAnyN_take [9, 10, 11] (i := 0) (v := ?_) rfl (by kernel_rfl) (by kernel_rfl) (by kernel_rfl) (by kernel_rfl) (by kernel_rfl) (fun _ _ _ h => h) (Or.inl ⟨by first | kernel_rfl | rfl, ?_⟩) (by assumption) ?_
        rotate_left
        focus
          intro w hSw
          (try dsimp only at hSw)
          go_simp
          try with_reducible rfl
        (try change wpAnyN _ _ _ _ _ _ _ _ (Act.put _ (some 54) _) _)
        try (unfold Act.put; dsimp only)
        refine wpAnyN_take [2, 3, 4, 8, 9, 10, 11] (i := 1) (v := ?_) rfl (by kernel_rfl) (by kernel_rfl) (by kernel_rfl) (by kernel_rfl) (by kernel_rfl) (fun _ _ _ h => h) (Or.inl ⟨by first | kernel_rfl | rfl, ?_⟩) (by assumption) ?_
        rotate_left
        focus
          intro w hSw
          (try dsimp only at hSw)
          go_simp
          try with_reducible rfl
        (try change wpAnyN _ _ _ _ _ _ _ _ (Act.put _ (some 55) _) _)
        try (unfold Act.put; dsimp only)
        refine wpAnyN_take [3, 4, 8, 9, 10, 11] (i := 2) (v := ?_) rfl (by kernel_rfl) (by kernel_rfl) (by kernel_rfl) (by kernel_rfl) (by kernel_rfl) (fun _ _ _ h => h) (Or.inl ⟨by first | kernel_rfl | rfl, ?_⟩) (by assumption) ?_
        rotate_left
        focus
          intro w hSw
          (try dsimp only at hSw)
          go_simp
          try with_reducible rfl
        (try change wpAnyN _ _ _ _ _ _ _ _ (Act.put _ (some 56) _) _)
        try (unfold Act.put; dsimp only)
        refine wpAnyN_take [4, 8, 9, 10, 11] (i := 3) (v := ?_) rfl (by kernel_rfl) (by kernel_rfl) (by kernel_rfl) (by kernel_rfl) (by kernel_rfl) (fun _ _ _ h => h) (Or.inl ⟨by first | kernel_rfl | rfl, ?_⟩) (by assumption) ?_
        rotate_left
        focus
          intro w hSw
          (try dsimp only at hSw)
          go_simp
          try with_reducible rfl
        (try change wpAnyN _ _ _ _ _ _ _ _ (Act.put _ (some 57) _) _)
        try (unfold Act.put; dsimp only)
        refine wpAnyN_take [8, 9, 10, 11] (i := 4) (v := ?_) rfl (by kernel_rfl) (by kernel_rfl) (by kernel_rfl) (by kernel_rfl) (by kernel_rfl) (fun _ _ _ h => h) (Or.inl ⟨by first | kernel_rfl | rfl, ?_⟩) (by assumption) ?_
        rotate_left
        focus
          intro w hSw
          (try dsimp only at hSw)
          go_simp
          try with_reducible rfl
        (try change wpAnyN _ _ _ _ _ _ _ _ (Act.put _ (some 58) _) _)
        try (unfold Act.put; dsimp only)
        refine wpAnyN_take [6, 7, 8, 9, 10, 11] (i := 5) (v := ?_) rfl (by kernel_rfl) (by kernel_rfl) (by kernel_rfl) (by kernel_rfl) (by kernel_rfl) (fun _ _ _ h => h) (Or.inl ⟨by first | kernel_rfl | rfl, ?_⟩) (by assumption) ?_
        rotate_left
        focus
          intro w hSw
          (try dsimp only at hSw)
          go_simp
          try with_reducible rfl
        (try change wpAnyN _ _ _ _ _ _ _ _ (Act.put _ (some 59) _) _)
        try (unfold Act.put; dsimp only)
        refine wpAnyN_take [7, 8, 9, 10, 11] (i := 6) (v := ?_) rfl (by kernel_rfl) (by kernel_rfl) (by kernel_rfl) (by kernel_rfl) (by kernel_rfl) (fun _ _ _ h => h) (Or.inl ⟨by first | kernel_rfl | rfl, ?_⟩) (by assumption) ?_
        rotate_left
        focus
          intro w hSw
          (try dsimp only at hSw)
          go_simp
          try with_reducible rfl
        (try change wpAnyN _ _ _ _ _ _ _ _ (Act.put _ (some 60) _) _)
        try (unfold Act.put; dsimp only)
        refine wpAnyN_ready (rs := [7]) (by kernel_rfl) (by simp) ?_
        refine AllReadyN.cons rfl (fun K hK => ?_) ?_
        · go_simp
          refine hK.out _ _ ?_ (fun hHeld => ?_)
          · (try dsimp only)
            first
              | (refine ⟨?_, ?_⟩ <;> assumption)
              | (refine ⟨cell_keep ?_ G2, cell_keep ?_ hvc⟩ <;> (go_grown; done))
          clear hK K
          (try change wpAnyN _ _ _ _ _ _ _ _ (Act.put _ (some 61) _) _)
          try (unfold Act.put; dsimp only)
          refine wpAnyN_ready (rs := [8]) (by kernel_rfl) (by simp) ?_
          refine AllReadyN.cons rfl (fun K hK => ?_) ?_
          · refine step_append_lies _ (by rfl) _ _ _ (by rfl) B 3 i0 _ 1 8 Tryd.underlying27 hi0 hz0 hz1 hz2 rfl (by decide) (.slice Sl q cps) q (numV .i64 s.serial) (by rfl) (own_below HOW.out (by go_grown)) _ 1 1 [.int .i64 ex] (by rfl) (by rfl) (World.news_of_block (cs := #[.int .i64 ex]) (t := 3) (fr := (0, 0)) (by (repeat (first | rw [heap_drew] | rw [heap_push])); simp)) (by simp [Value.oneCell']) (by decide) (by unfold maxLen; omega) (by omega) (by simp <;> omega) _ rfl ?_
            intro gg cap w7 hown7 hgrow hat hlt7
            have h7 := append_keep hgrow (by go_grown) HGB.out HVG.out
            have y2 := append_cell hgrow (by go_grown) G2 HVW.out
            have k7 := heap_cell h7 (j := 19) (u := .slice Sl q cps) (by rw [← HVS.out]; exact HSR.out.2.2.2.1)
            have kf7 := heap_free h7 (j := 19)
            have HBW7 : Hid (Below B w w7) := Lib.hid (append_below hgrow (by go_grown) HBr.out (by omega) (fun k hk => (HOW.out.lt k hk).1))
            have HST : Hid (∃ tag' cs', StAt (w7.setCell ⟨g, 19, none⟩ (.slice (some ⟨gg, 0, none⟩) (q + 1) cap)) B tag' g ⟨s3.all, s3.dead, s3.now, s.serial ++ [ex]⟩ bs va (.slice (some ⟨gg, 0, none⟩) (q + 1) cap) cs') := Lib.hid (by
              refine StAt.setSer (HSR.out.below (show Below wr.heap.size wr (wr.alloc (.cells #[.int .i64 ex] 3)).drew by go_grown)) (by rw [HVS.out]; exact hgrow) (by rw [List.length_append, HM.out]; simpa [numV] using hown7) ?_
              intro k hk
              rw [HVS.out]
              simp [Value.ownBlock] at hk
              subst hk
              rcases hat with h | h
              · exact .inl h
              · right; rw [h]; exact Nat.le_refl _)
            have H7 := Lib.hid h7
            clear h7 hgrow hown7
            refine hK.out _ _ ?_ (fun hHeld => ?_)
            · (try dsimp only)
              first
                | (refine ⟨?_, ?_⟩ <;> assumption)
                | (refine ⟨cell_keep ?_ G2, cell_keep ?_ hvc⟩ <;> (go_grown; done))
            clear hK K
            (try change wpAnyN _ _ _ _ _ _ _ _ (Act.put _ (some 62) _) _)
            try (unfold Act.put; dsimp only)
            refine wpAnyN_take [10, 11] (i := 9) (v := ?_) rfl (by kernel_rfl) (by kernel_rfl) (by kernel_rfl) (by kernel_rfl) (by kernel_rfl) (fun _ _ _ h => h) (Or.inl ⟨by first | kernel_rfl | rfl, ?_⟩) (by assumption) ?_
            rotate_left
            focus
              intro w hSw
              (try dsimp only at hSw)
              go_simp
              try with_reducible rfl
            (try change wpAnyN _ _ _ _ _ _ _ _ (Act.put _ (some 63) _) _)
            try (unfold Act.put; dsimp only)
            refine wpAnyN_take [11] (i := 10) (v := ?_) rfl (by kernel_rfl) (by kernel_rfl) (by kernel_rfl) (by kernel_rfl) (by kernel_rfl) (fun _ _ _ h => h) (Or.inl ⟨by first | kernel_rfl | rfl, ?_⟩) (by assumption) ?_
            rotate_left
            focus
              intro w hSw
              (try dsimp only at hSw)
              go_simp
              try with_reducible rfl
            (try change wpAnyN _ _ _ _ _ _ _ _ (Act.put _ (some 64) _) _)
            try (unfold Act.put; dsimp only)
            refine wpAnyN_ready (rs := [11]) (by kernel_rfl) (by simp) ?_
            refine AllReadyN.last rfl rfl (fun K hK => ?_) ?_
            · go_simp
              refine hK.out _ _ ?_
              clear hK K
              try (unfold Act.put; dsimp only)
              refine wpAnyN_done (by kernel_rfl) ?_ _
              obtain ⟨tag', cs', hF⟩ := HST.out
              have hxF : s3.all[i]? = some { x with fin := p } := by rw [← HS3E.out]; exact get_set' HX.out
              have HO := Lib.hid (over_st hF HI.out hxF (by exact HTO.out.client))
              have HBF : Hid (Below B w (w7.setCell ⟨g, 19, none⟩ (.slice (some ⟨gg, 0, none⟩) (q + 1) cap))) := Lib.hid (HBW7.out.setCell hgB _)
              clear hF hxF
              go_wp2_with (go_at_call 51; refine HO.out.mono ?_; rintro e w9 ⟨rfl, hS9, hb9⟩)
              go_ret
              rw [H0.out]
              refine step_ok (tag := tag') (HBF.out.trans hb9) rfl ?_
              rw [← HS3E.out] at hS9
              simpa using hS9
            exact AllReadyN.nil
          exact AllReadyN.nil
        exact AllReadyN.nil
end Go.Proofs.YtggkohkngockoaaDoor

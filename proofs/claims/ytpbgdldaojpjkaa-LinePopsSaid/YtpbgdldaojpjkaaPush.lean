/-
  line.Push: one comes. No other conditions.
-/
import Derived.Test.YtpbgdldaojpjkaaLineX
import Derived.Test.YtpbgdldaojpjkaaRegN
import Derived.Deep.RegionLaw
import Derived.Deep.RegionHeld3
import Derived.Deep.AppendLies
import Derived.Laws.Rows
namespace Go.Proofs.Ytpbgdldaojpjkaa
open Go.ChangeShapes Go.WideShapes Go.ChangeAt Go.RowKit
set_option linter.unusedVariables false

/-- what Push leaves -/
def PushOf (w w' : World) (B g : Nat) (lim : Int) (l : Lot) (S : Nat → Prop) (e : Wt) (r : Ending) : Prop :=
  r = .returned (errV (pushE l lim e)) ∧ LineX w' B g lim (pushL l lim e) S ∧ Below B w w' ∧ ∀ k, S k → w'.heap[k]? = w.heap[k]?

theorem push_same {w w' : World} {B g : Nat} {lim : Int} {l : Lot} {S : Nat → Prop} {e : Wt} {k : Int} (hX : LineX w B g lim l S) (hb : Below w.heap.size w w') (hBw : B ≤ w.heap.size) (hk : pushE l lim e = k) (h0 : k ≠ 0) : PushOf w w' B g lim l S e (.returned (.iface 55 (.int .i64 k))) := by
  subst hk
  refine ⟨by unfold errV; rw [if_neg h0], ?_, hb.mono hBw, hX.kept hb⟩
  unfold pushL
  rw [if_neg h0]
  exact hX.below hb

theorem heap_drew (w : World) (k : Nat) : w.drew.heap[k]? = w.heap[k]? := rfl
theorem heap_push (w : World) (o : Obj) (k : Nat) : (w.alloc o).heap[k]? = if k = w.heap.size then some o else w.heap[k]? := by
  show (w.heap.push o)[k]? = _
  rw [Array.getElem?_push]

theorem cell_of7 {w : World} {g : Nat} {x y z : Value} {t : TypeId} (h : w.heap[g]? = some (.cells #[x, y, z] t (0, 0))) : w.cell? ⟨g, 1, none⟩ = some y := by simp [World.cell?, h]
theorem cell_of8 {w : World} {g : Nat} {x y z : Value} {t : TypeId} (h : w.heap[g]? = some (.cells #[x, y, z] t (0, 0))) : w.cell? ⟨g, 2, none⟩ = some z := by simp [World.cell?, h]
theorem frozen_of7 {w : World} {g j : Nat} {cs : Array Value} {t : TypeId} (h : w.heap[g]? = some (.cells cs t (0, 0))) : w.frozen? ⟨g, j, none⟩ = false := by simp [World.frozen?, h]

theorem append_keep {w2 W w7 : World} {v : Value} {g : Nat} {o : Obj} (hg : W.grownBy w7 v.ownBlock) (hb : Below w2.heap.size w2 W) (hgb : w2.heap[g]? = some o) (hne : v.ownBlock ≠ some g) : w7.heap[g]? = some o := by
  have hl := (Array.getElem?_eq_some_iff.1 hgb).1
  exact (hg.block g (Nat.lt_of_lt_of_le hl hb.size) (fun e => hne e.symm)).trans ((hb.block g hl).trans hgb)

theorem cell_keep {w2 W : World} {u : Value} {b o : Nat} (hb : Below w2.heap.size w2 W) (hc : w2.cell? ⟨b, o, none⟩ = some u) : W.cell? ⟨b, o, none⟩ = some u :=
  (hb.cell (p := ⟨b, o, none⟩) (lt_of_cell hc)).trans hc
theorem cell_set {w : World} {u v : Value} {b o g j : Nat} (hne : g ≠ b) (hc : w.cell? ⟨b, o, none⟩ = some u) : (w.setCell ⟨g, j, none⟩ v).cell? ⟨b, o, none⟩ = some u :=
  (World.cell?_setCell_far w ⟨g, j, none⟩ ⟨b, o, none⟩ v hne).trans hc
theorem append_cell {w2 W w7 : World} {v u : Value} {b o : Nat} (hg : W.grownBy w7 v.ownBlock) (hb : Below w2.heap.size w2 W) (hc : w2.cell? ⟨b, o, none⟩ = some u) (hne : v.ownBlock ≠ some b) : w7.cell? ⟨b, o, none⟩ = some u :=
  hg.cell ((hb.cell (p := ⟨b, o, none⟩) (lt_of_cell hc)).trans hc) (fun e => hne e.symm)

theorem kept_grown {w W w7 : World} {v : Value} {g j : Nat} {u : Value} (hb : Below w.heap.size w W) (hg : W.grownBy w7 v.ownBlock) (k : Nat) (hk : k < w.heap.size) (hkg : k ≠ g) (hkv : v.ownBlock ≠ some k) : (w7.setCell ⟨g, j, none⟩ u).heap[k]? = w.heap[k]? :=
  (Below.heap_setCell w7 ⟨g, j, none⟩ u k hkg).trans ((hg.block k (Nat.lt_of_lt_of_le hk hb.size) (fun e => hkv e.symm)).trans (hb.block k hk))

/-- the row of the first lot is stored anew -/
theorem store_0 {w W w7 : World} {B g gg : Nat} {lim : Int} {l : Lot} {S : Nat → Prop} {v0 v1 v' : Value} {a' : List Wt} (hgb : w.heap[g]? = some (.cells #[.int .i64 lim, v0, v1] 58 (0, 0))) (hB : B ≤ g) (o0 : w.ownsRow B 33 4 v0 l.a.length (flatW l.a))
    (o1 : w.ownsRow B 33 4 v1 l.b.length (flatW l.b)) (n0 : v0.ownBlock ≠ some g) (n1 : v1.ownBlock ≠ some g) (n2 : ∀ k, v0.ownBlock = some k → v1.ownBlock ≠ some k) (hS : ∀ k, S k → k < w.heap.size ∧ k ≠ g ∧ v0.ownBlock ≠ some k ∧ v1.ownBlock ≠ some k)
    (hb : Below w.heap.size w W) (hg : W.grownBy w7 v0.ownBlock) (hown : w7.ownsRow B 33 4 v' a'.length (flatW a')) (hv : v'.ownBlock = some gg) (hat : v0.ownBlock = some gg ∨ gg = W.heap.size) :
    LineX (w7.setCell ⟨g, 1, none⟩ v') B g lim ⟨a', l.b⟩ S ∧ (∀ k, S k → (w7.setCell ⟨g, 1, none⟩ v').heap[k]? = w.heap[k]?) := by
  have hgl := (Array.getElem?_eq_some_iff.1 hgb).1
  have hs := hb.size
  have hgg : ∀ k, k < w.heap.size → v0.ownBlock ≠ some k → v'.ownBlock ≠ some k := fun k hk hne e => by
    rw [hv] at e
    cases e
    rcases hat with h | h
    · exact hne h
    · omega
  have h7 := append_keep hg hb hgb n0
  have o17 : w7.ownsRow B 33 4 v1 l.b.length (flatW l.b) := (own_below o1 hb).kept hg (by
    cases h : v1.ownBlock with
    | none => exact .inl rfl
    | some k => right; intro e; exact n2 k e.symm h)
  refine ⟨⟨v', v1, ?_, hB, own_stored hown (hgg g hgl n0) _, own_stored o17 n1 _, hgg g hgl n0, n1, fun k hk e => ?_, fun k hk => ?_⟩, fun k hk => kept_grown hb hg k (hS k hk).1 (hS k hk).2.1 (hS k hk).2.2.1⟩
  · rw [heap_setCell_same w7 g 1 _ _ _ h7]; rfl
  · have hk1 := (o1.lt k e).2
    refine hgg k hk1 (fun e0 => n2 k e0 e) hk
  · obtain ⟨h1, h2, h3, h4⟩ := hS k hk
    refine ⟨?_, h2, hgg k h1 h3, h4⟩
    have := hg.size
    simp; omega

/-- the row of the second lot is stored anew -/
theorem store_1 {w W w7 : World} {B g gg : Nat} {lim : Int} {l : Lot} {S : Nat → Prop} {v0 v1 v' : Value} {b' : List Wt} (hgb : w.heap[g]? = some (.cells #[.int .i64 lim, v0, v1] 58 (0, 0))) (hB : B ≤ g) (o0 : w.ownsRow B 33 4 v0 l.a.length (flatW l.a))
    (o1 : w.ownsRow B 33 4 v1 l.b.length (flatW l.b)) (n0 : v0.ownBlock ≠ some g) (n1 : v1.ownBlock ≠ some g) (n2 : ∀ k, v0.ownBlock = some k → v1.ownBlock ≠ some k) (hS : ∀ k, S k → k < w.heap.size ∧ k ≠ g ∧ v0.ownBlock ≠ some k ∧ v1.ownBlock ≠ some k)
    (hb : Below w.heap.size w W) (hg : W.grownBy w7 v1.ownBlock) (hown : w7.ownsRow B 33 4 v' b'.length (flatW b')) (hv : v'.ownBlock = some gg) (hat : v1.ownBlock = some gg ∨ gg = W.heap.size) :
    LineX (w7.setCell ⟨g, 2, none⟩ v') B g lim ⟨l.a, b'⟩ S ∧ (∀ k, S k → (w7.setCell ⟨g, 2, none⟩ v').heap[k]? = w.heap[k]?) := by
  have hgl := (Array.getElem?_eq_some_iff.1 hgb).1
  have hs := hb.size
  have hgg : ∀ k, k < w.heap.size → v1.ownBlock ≠ some k → v'.ownBlock ≠ some k := fun k hk hne e => by
    rw [hv] at e
    cases e
    rcases hat with h | h
    · exact hne h
    · omega
  have h7 := append_keep hg hb hgb n1
  have o07 : w7.ownsRow B 33 4 v0 l.a.length (flatW l.a) := (own_below o0 hb).kept hg (by
    cases h : v0.ownBlock with
    | none => exact .inl rfl
    | some k => right; intro e; exact n2 k h e.symm)
  refine ⟨⟨v0, v', ?_, hB, own_stored o07 n0 _, own_stored hown (hgg g hgl n1) _, n0, hgg g hgl n1, fun k hk e => ?_, fun k hk => ?_⟩, fun k hk => kept_grown hb hg k (hS k hk).1 (hS k hk).2.1 (hS k hk).2.2.2⟩
  · rw [heap_setCell_same w7 g 2 _ _ _ h7]; rfl
  · have hk1 := (o0.lt k hk).2
    exact hgg k hk1 (n2 k hk) e
  · obtain ⟨h1, h2, h3, h4⟩ := hS k hk
    refine ⟨?_, h2, h3, hgg k h1 h4⟩
    have := hg.size
    simp; omega

set_option maxRecDepth 100000 in
set_option maxHeartbeats 4000000 in
theorem push_any (B g : Nat) (lim : Int) (l : Lot) (S : Nat → Prop) (x s m : Int) (u : Bool) (w : World) (hX : LineX w B g lim l S) (hBw : B ≤ w.heap.size) (hn : l.n ≤ 1000) :
    Calls Try.prog 20 #[.pointer (some ⟨g, 0, none⟩), .agg #[.int .i64 x, .int .i64 s, .int .i64 m, .bool u]] w fun r w' => PushOf w w' B g lim l S ⟨x, s, m, u⟩ r := by
  have HX := Lib.hid hX
  obtain ⟨hBg, A0, A1, c0, c1, hl, r0, r1, z0, z1⟩ := hX.at
  have hna : l.a.length ≤ 1000 := by unfold Lot.n at hn; omega
  have hnb : l.b.length ≤ 1000 := by unfold Lot.n at hn; omega
  have hbA : Below w.heap.size w (w.alloc (.cells #[.int .i64 x, .int .i64 s, .int .i64 m, .bool u] 33)) := (Below.refl _ _).alloc (Nat.le_refl _) _
  have HL := Lib.hid hl
  have R0 := Lib.hid r0
  have R1 := Lib.hid r1
  clear hl r0 r1 hX
  go_enter Try.func20, Try.ntmps20
  go_wp2_with fail
  refine (may_any x s m u _).mono ?_
  rintro e w1 ⟨rfl, hb1⟩
  obtain ⟨kc, kf, kz⟩ := belowK hb1 (K := w.heap.size + 1) (by simp)
  have hB1 : Below w.heap.size w w1 := hbA.trans (hb1.mono (by simp))
  rcases hok : (⟨x, s, m, u⟩ : Wt).ok with _ | _
  · go_wp2
    go_ret
    exact push_same HX.out hB1 hBw (by unfold pushE; rw [if_pos hok]) (by decide)
  · go_wp2_with fail
    refine (place_any g lim A0 A1 c0 c1 l x _ (HL.out.below hB1) (R0.out.below hB1) (R1.out.below hB1) (by omega) (by omega)).mono ?_
    rintro e w2 ⟨rfl, hb2⟩
    have hB2 := hB1.trans (hb2.mono hB1.size)
    rw [placeB_has]
    rcases hhas : l.has x with _ | _
    · have hl2 := HL.out.below hB2
      obtain ⟨hgl, hq0, hq1, hq2⟩ := hl2
      have hbox : w2.cell? ⟨w.heap.size, 0, none⟩ = some (.int .i64 x) ∧ w2.cell? ⟨w.heap.size, 1, none⟩ = some (.int .i64 s) ∧ w2.cell? ⟨w.heap.size, 2, none⟩ = some (.int .i64 m) ∧ w2.cell? ⟨w.heap.size, 3, none⟩ = some (.bool u) := by
        have h1 : w.heap.size < w1.heap.size := by omega
        refine ⟨(hb2.cell (p := ⟨w.heap.size, 0, none⟩) h1).trans ?_, (hb2.cell (p := ⟨w.heap.size, 1, none⟩) h1).trans ?_, (hb2.cell (p := ⟨w.heap.size, 2, none⟩) h1).trans ?_, (hb2.cell (p := ⟨w.heap.size, 3, none⟩) h1).trans ?_⟩ <;> (rw [kc w.heap.size _ (by omega)]; simp)
      obtain ⟨b0, b1, b2, b3⟩ := hbox
      obtain ⟨na, hnae⟩ : ∃ n, l.a.length = n := ⟨_, rfl⟩
      obtain ⟨nb, hnbe⟩ : ∃ n, l.b.length = n := ⟨_, rfl⟩
      have NA := Lib.hid hnae
      have NB := Lib.hid hnbe
      rw [hnae] at hq1 hna
      rw [hnbe] at hq2 hnb
      clear hnae hnbe
      by_cases hfull : ((na : Int) + nb) = lim
      · have hfb : ((na : Int) + nb == lim) = true := by simp [hfull]
        go_wp2
        go_quiet (fail)
        go_wp2
        go_ret
        refine push_same HX.out (by first | exact hB2 | exact below_drewN hB2 _) hBw (k := 7) ?_ (by decide)
        unfold pushE Lot.n
        rw [if_neg (by rw [hok]; decide), if_neg (by rw [hhas]; decide), if_pos (by have h1 := NA.out; have h2 := NB.out; rw [h1, h2]; omega)]
      · have hfb : ((na : Int) + nb == lim) = false := by simp [hfull]
        have hfull' : ¬ ((na : Int) + nb) = lim := hfull
        go_wp2
        go_quiet (fail)
        go_wp2
        generalize hw3 : World.drewN w2 _ = w3
        have hb3 : Below w2.heap.size w2 w3 := by rw [← hw3]; exact below_drewN (Below.refl _ _) _
        have hB3 := hB2.trans (hb3.mono hB2.size)
        have hws : w.heap.size < w2.heap.size := lt_of_cell b0
        replace b0 := (hb3.cell (p := ⟨w.heap.size, 0, none⟩) hws).trans b0
        replace b1 := (hb3.cell (p := ⟨w.heap.size, 1, none⟩) hws).trans b1
        replace b2 := (hb3.cell (p := ⟨w.heap.size, 2, none⟩) hws).trans b2
        replace b3 := (hb3.cell (p := ⟨w.heap.size, 3, none⟩) hws).trans b3
        replace hq0 := (hb3.cell (p := ⟨g, 0, none⟩) hgl).trans hq0
        replace hq1 := (hb3.cell (p := ⟨g, 1, none⟩) hgl).trans hq1
        replace hq2 := (hb3.cell (p := ⟨g, 2, none⟩) hgl).trans hq2
        have hs3 := hb3.size
        have hws3 : w.heap.size < w3.heap.size := by omega
        have hgl3 : g < w3.heap.size := by omega
        obtain ⟨i0, hi0, hz0, hz1, hz2⟩ := info_parts wait_info
        obtain ⟨v0, v1, hgb, _, o0, o1, n0, n1, n2, hS⟩ := HX.out.below hB3
        have HG := Lib.hid hgb
        rw [NA.out] at o0
        rw [NB.out] at o1
        have O0 := Lib.hid o0
        have O1 := Lib.hid o1
        have N0 := Lib.hid n0
        have N1 := Lib.hid n1
        have hq1' : v0 = .slice A0 na c0 := by
          have : w3.cell? ⟨g, 1, none⟩ = some v0 := by simp [World.cell?, hgb]
          rw [hq1] at this; exact (Option.some.inj this).symm
        have hq2' : v1 = .slice A1 nb c1 := by
          have : w3.cell? ⟨g, 2, none⟩ = some v1 := by simp [World.cell?, hgb]
          rw [hq2] at this; exact (Option.some.inj this).symm
        have hgw : g ≠ w.heap.size := by
          obtain ⟨u0, u1, hgb', _⟩ := HX.out
          have := (Array.getElem?_eq_some_iff.1 hgb').1; omega
        have hgne : g ≠ w3.heap.size := by omega
        have hgne1 : g ≠ w3.heap.size + 1 := by omega
        have hgne2 : g ≠ w3.heap.size + 1 + 1 := by omega
        have hwne : w.heap.size ≠ w3.heap.size := by omega
        have hwne1 : w.heap.size ≠ w3.heap.size + 1 := by omega
        have hwne2 : w.heap.size ≠ w3.heap.size + 1 + 1 := by omega
        have hgne3 : g ≠ w3.heap.size + 2 := by omega
        have hwne3 : w.heap.size ≠ w3.heap.size + 2 := by omega
        have hgt1 : g < w3.heap.size + 1 := by omega
        have hwt1 : w.heap.size < w3.heap.size + 1 := by omega
        have hgt2 : g < w3.heap.size + 1 + 1 := by omega
        have hwt2 : w.heap.size < w3.heap.size + 1 + 1 := by omega
        have hgt3 : g < w3.heap.size + 2 := by omega
        have hwt3 : w.heap.size < w3.heap.size + 2 := by omega
        have hgt4 : g < w3.heap.size + 1 + 1 + 1 := by omega
        have hwt4 : w.heap.size < w3.heap.size + 1 + 1 + 1 := by omega
        have hgt5 : g < w3.heap.size + 3 := by omega
        have hwt5 : w.heap.size < w3.heap.size + 3 := by omega
        have hv0w : v0.ownBlock ≠ some w.heap.size := fun e => by
          obtain ⟨u0, u1, hgb', _, p0, _⟩ := HX.out
          have : u0 = v0 := by
            have h1 := cell_of7 hgb'
            have h2 := (hB3.cell (p := ⟨g, 1, none⟩) (Array.getElem?_eq_some_iff.1 hgb').1).trans h1
            rw [cell_of7 hgb] at h2; exact (Option.some.inj h2).symm
          rw [← this] at e
          have := (p0.lt _ e).2; omega
        have hv1w : v1.ownBlock ≠ some w.heap.size := fun e => by
          obtain ⟨u0, u1, hgb', _, _, p0, _⟩ := HX.out
          have : u1 = v1 := by
            have h1 := cell_of8 hgb'
            have h2 := (hB3.cell (p := ⟨g, 2, none⟩) (Array.getElem?_eq_some_iff.1 hgb').1).trans h1
            rw [cell_of8 hgb] at h2; exact (Option.some.inj h2).symm
          rw [← this] at e
          have := (p0.lt _ e).2; omega
        clear hgb o0 o1 n0 n1 hb1 hb2 hB1 kc kf kz hw3 hb3 hs3 hgl hws
        subst hq1' hq2'
        have hws3le : w.heap.size ≤ w3.heap.size := by omega
        have HSw : ∀ k, S k → k < w.heap.size := fun k hk => by obtain ⟨_, _, _, _, _, _, _, _, _, h⟩ := HX.out; exact (h k hk).1
        have hE0 : pushE l lim ⟨x, s, m, u⟩ = 0 := by
          unfold pushE Lot.n
          rw [if_neg (by rw [hok]; decide), if_neg (by rw [hhas]; decide), if_neg (by have h1 := NA.out; have h2 := NB.out; rw [h1, h2]; omega)]
        have hL1 : pushL l lim ⟨x, s, m, u⟩ = if u then ⟨l.a ++ [⟨x, s, m, u⟩], l.b⟩ else ⟨l.a, l.b ++ [⟨x, s, m, u⟩]⟩ := by unfold pushL; rw [if_pos hE0]
        cases u
        · skip
          refine wp_region_N (S := (fun w' => (w'.cell? ⟨w.heap.size, 0, none⟩ = some (.int .i64 x) ∧ w'.cell? ⟨w.heap.size, 1, none⟩ = some (.int .i64 s) ∧ w'.cell? ⟨w.heap.size, 2, none⟩ = some (.int .i64 m) ∧ w'.cell? ⟨w.heap.size, 3, none⟩ = some (.bool false)) ∧ w'.cell? ⟨g, 2, none⟩ = some (.slice A1 nb c1))) (fun i => !(i == 16)) (by kernel_rfl) ?_ (fun hHeld => ?_)
          · (try dsimp only)
            first
              | (refine ⟨⟨?_, ?_, ?_, ?_⟩, ?_⟩ <;> assumption)
              | (refine ⟨⟨cell_keep ?_ b0, cell_keep ?_ b1, cell_keep ?_ b2, cell_keep ?_ b3⟩, cell_keep ?_ hq2⟩ <;> (go_grown; done))
          refine wpAnyN_take [13, 14, 15, 16] (i := 0) (v := ?_) rfl (by kernel_rfl) (by kernel_rfl) (by kernel_rfl) (by kernel_rfl) (by kernel_rfl) (fun _ _ _ h => h) (Or.inl ⟨by rfl, ?_⟩) (by assumption) ?_
          rotate_left
          focus
            intro w hSw
            (try dsimp only at hSw)
            go_simp
            try with_reducible rfl
          try (unfold Act.put; dsimp only)
          refine wpAnyN_take [2, 5, 8, 9, 12, 15, 16] (i := 1) (v := ?_) rfl (by kernel_rfl) (by kernel_rfl) (by kernel_rfl) (by kernel_rfl) (by kernel_rfl) (fun _ _ _ h => h) (Or.inl ⟨by rfl, ?_⟩) (by assumption) ?_
          rotate_left
          focus
            intro w hSw
            (try dsimp only at hSw)
            go_simp
            try with_reducible rfl
          try (unfold Act.put; dsimp only)
          refine wpAnyN_take [6, 7, 8, 9, 12, 15, 16] (i := 3) (v := ?_) rfl (by kernel_rfl) (by kernel_rfl) (by kernel_rfl) (by kernel_rfl) (by kernel_rfl) (fun _ _ _ h => h) (Or.inl ⟨by rfl, ?_⟩) (by assumption) ?_
          rotate_left
          focus
            intro w hSw
            (try dsimp only at hSw)
            go_simp
            try with_reducible rfl
          try (unfold Act.put; dsimp only)
          refine wpAnyN_take [5, 8, 9, 12, 15, 16] (i := 4) (v := ?_) rfl (by kernel_rfl) (by kernel_rfl) (by kernel_rfl) (by kernel_rfl) (by kernel_rfl) (fun _ _ _ h => h) (Or.inl ⟨by rfl, ?_⟩) (by assumption) ?_
          rotate_left
          focus
            intro w hSw
            (try dsimp only at hSw)
            go_simp
            try with_reducible rfl
          try (unfold Act.put; dsimp only)
          refine wpAnyN_take [7, 8, 9, 12, 15, 16] (i := 6) (v := ?_) rfl (by kernel_rfl) (by kernel_rfl) (by kernel_rfl) (by kernel_rfl) (by kernel_rfl) (fun _ _ _ h => h) (Or.inl ⟨by rfl, ?_⟩) (by assumption) ?_
          rotate_left
          focus
            intro w hSw
            (try dsimp only at hSw)
            go_simp
            try with_reducible rfl
          try (unfold Act.put; dsimp only)
          refine wpAnyN_take [8, 9, 12, 15, 16] (i := 7) (v := ?_) rfl (by kernel_rfl) (by kernel_rfl) (by kernel_rfl) (by kernel_rfl) (by kernel_rfl) (fun _ _ _ h => h) (Or.inl ⟨by rfl, ?_⟩) (by assumption) ?_
          rotate_left
          focus
            intro w hSw
            (try dsimp only at hSw)
            go_simp
            try with_reducible rfl
          try (unfold Act.put; dsimp only)
          refine wpAnyN_take [11, 12, 15, 16] (i := 10) (v := ?_) rfl (by kernel_rfl) (by kernel_rfl) (by kernel_rfl) (by kernel_rfl) (by kernel_rfl) (fun _ _ _ h => h) (Or.inl ⟨by rfl, ?_⟩) (by assumption) ?_
          rotate_left
          focus
            intro w hSw
            (try dsimp only at hSw)
            go_simp
            try with_reducible rfl
          try (unfold Act.put; dsimp only)
          refine wpAnyN_take [14, 15, 16] (i := 13) (v := ?_) rfl (by kernel_rfl) (by kernel_rfl) (by kernel_rfl) (by kernel_rfl) (by kernel_rfl) (fun _ _ _ h => h) (Or.inl ⟨by rfl, ?_⟩) (by assumption) ?_
          rotate_left
          focus
            intro w hSw
            (try dsimp only at hSw)
            go_simp
            try with_reducible rfl
          try (unfold Act.put; dsimp only)
          refine wpAnyN_take [15, 16] (i := 14) (v := ?_) rfl (by kernel_rfl) (by kernel_rfl) (by kernel_rfl) (by kernel_rfl) (by kernel_rfl) (fun _ _ _ h => h) (Or.inl ⟨by rfl, ?_⟩) (by assumption) ?_
          rotate_left
          focus
            intro w hSw
            (try dsimp only at hSw)
            go_simp
            try with_reducible rfl
          try (unfold Act.put; dsimp only)
          refine wpAnyN_ready (rs := [2, 11]) (by kernel_rfl) (by simp) ?_
          refine AllReadyN.cons rfl (fun K hK => ?_) ?_
          · go_simp
            go_at_call 29
            refine (lot_any x s m false _).mono ?_
            rintro e w5 ⟨rfl, rfl⟩
            dsimp only
            refine hK.out _ _ ?_ (fun hHeld => ?_)
            · (try dsimp only)
              first
                | (refine ⟨⟨?_, ?_, ?_, ?_⟩, ?_⟩ <;> assumption)
                | (refine ⟨⟨cell_keep ?_ b0, cell_keep ?_ b1, cell_keep ?_ b2, cell_keep ?_ b3⟩, cell_keep ?_ hq2⟩ <;> (go_grown; done))
            clear hK K
            try (unfold Act.put; dsimp only)
            refine wpAnyN_ready (rs := [5, 11]) (by kernel_rfl) (by simp) ?_
            refine AllReadyN.cons rfl (fun K hK => ?_) ?_
            · go_simp
              go_at_call 29
              refine (lot_any x s m false _).mono ?_
              rintro e w5 ⟨rfl, rfl⟩
              dsimp only
              refine hK.out _ _ ?_ (fun hHeld => ?_)
              · (try dsimp only)
                first
                  | (refine ⟨⟨?_, ?_, ?_, ?_⟩, ?_⟩ <;> assumption)
                  | (refine ⟨⟨cell_keep ?_ b0, cell_keep ?_ b1, cell_keep ?_ b2, cell_keep ?_ b3⟩, cell_keep ?_ hq2⟩ <;> (go_grown; done))
              clear hK K
              try (unfold Act.put; dsimp only)
              refine wpAnyN_take [9, 12, 15, 16] (i := 8) (v := ?_) rfl (by kernel_rfl) (by kernel_rfl) (by kernel_rfl) (by kernel_rfl) (by kernel_rfl) (fun _ _ _ h => h) (Or.inl ⟨by rfl, ?_⟩) (by assumption) ?_
              rotate_left
              focus
                intro w hSw
                (try dsimp only at hSw)
                go_simp
                try with_reducible rfl
              try (unfold Act.put; dsimp only)
              refine wpAnyN_take [12, 15, 16] (i := 9) (v := ?_) rfl (by kernel_rfl) (by kernel_rfl) (by kernel_rfl) (by kernel_rfl) (by kernel_rfl) (fun _ _ _ h => h) (Or.inl ⟨by rfl, ?_⟩) (by assumption) ?_
              rotate_left
              focus
                intro w hSw
                (try dsimp only at hSw)
                go_simp
                try with_reducible rfl
              try (unfold Act.put; dsimp only)
              refine wpAnyN_ready (rs := [11]) (by kernel_rfl) (by simp) ?_
              refine AllReadyN.cons rfl (fun K hK => ?_) ?_
              · go_simp
                refine hK.out _ _ ?_ (fun hHeld => ?_)
                · (try dsimp only)
                  first
                    | (refine ⟨⟨?_, ?_, ?_, ?_⟩, ?_⟩ <;> assumption)
                    | (refine ⟨⟨cell_keep ?_ b0, cell_keep ?_ b1, cell_keep ?_ b2, cell_keep ?_ b3⟩, cell_keep ?_ hq2⟩ <;> (go_grown; done))
                clear hK K
                try (unfold Act.put; dsimp only)
                refine wpAnyN_ready (rs := [12]) (by kernel_rfl) (by simp) ?_
                refine AllReadyN.cons rfl (fun K hK => ?_) ?_
                · refine step_append_lies _ (by rfl) _ _ _ (by rfl) B 33 i0 _ 4 32 Try.underlying30 hi0 hz0 hz1 hz2 rfl (by decide) (.slice A1 nb c1) nb (flatW l.b) (by rfl) (own_below O1.out (by go_grown)) _ 1 1 [.int .i64 x, .int .i64 s, .int .i64 m, .bool false] (by rfl) (by rfl) (World.news_of_block (cs := #[.int .i64 x, .int .i64 s, .int .i64 m, .bool false]) (t := 33) (fr := (0, 0)) (by (repeat (first | rw [heap_drew] | rw [heap_push])); simp)) (by simp [Value.oneCell']) (by decide) (by unfold maxLen; omega) (by omega) (by simp <;> omega) _ rfl ?_
                  intro gg cap w7 hown7 hgrow hat hlt7
                  have h7 := append_keep hgrow (by go_grown) HG.out N1.out
                  have y0 := append_cell hgrow (by go_grown) b0 hv1w
                  have y1 := append_cell hgrow (by go_grown) b1 hv1w
                  have y2 := append_cell hgrow (by go_grown) b2 hv1w
                  have y3 := append_cell hgrow (by go_grown) b3 hv1w
                  have k7 := cell_of8 h7
                  have kf7 := frozen_of7 h7 (j := 2)
                  have H7 := Lib.hid h7
                  have HW := Lib.hid hgrow
                  have HO := Lib.hid hown7
                  clear h7 hgrow hown7
                  refine hK.out _ _ ?_ (fun hHeld => ?_)
                  · (try dsimp only)
                    first
                      | (refine ⟨⟨?_, ?_, ?_, ?_⟩, ?_⟩ <;> assumption)
                      | (refine ⟨⟨cell_keep ?_ b0, cell_keep ?_ b1, cell_keep ?_ b2, cell_keep ?_ b3⟩, cell_keep ?_ hq2⟩ <;> (go_grown; done))
                  clear hK K
                  try (unfold Act.put; dsimp only)
                  refine wpAnyN_take [16] (i := 15) (v := ?_) rfl (by kernel_rfl) (by kernel_rfl) (by kernel_rfl) (by kernel_rfl) (by kernel_rfl) (fun _ _ _ h => h) (Or.inl ⟨by rfl, ?_⟩) (by assumption) ?_
                  rotate_left
                  focus
                    intro w hSw
                    (try dsimp only at hSw)
                    go_simp
                    try with_reducible rfl
                  try (unfold Act.put; dsimp only)
                  refine wpAnyN_ready (rs := [16]) (by kernel_rfl) (by simp) ?_
                  refine AllReadyN.last rfl rfl (fun K hK => ?_) ?_
                  · go_simp
                    refine hK.out _ _ ?_
                    clear hK K
                    try (unfold Act.put; dsimp only)
                    refine wpAnyN_done (by kernel_rfl) ?_ _
                    go_wp2
                    go_ret
                    have hr := store_1 (l := l) (b' := l.b ++ [⟨x, s, m, false⟩]) HG.out hBg (by rw [NA.out]; exact O0.out) (by rw [NB.out]; exact O1.out) N0.out N1.out n2 hS (by go_grown) HW.out (by rw [flatW_append, flatW_one, List.length_append, NB.out]; exact HO.out) rfl hat
                    refine ⟨by unfold errV; rw [hE0]; rfl, ?_, ?_, fun k hk => (hr.2 k hk).trans (hB3.block k (HSw k hk))⟩
                    · rw [hL1]; exact hr.1
                    · exact Below.setCell (Below.grown (hB3.trans (show Below w.heap.size w3 _ by first | (refine Below.mono ?_ hws3le; go_grown; done))  |>.mono hBw) HW.out (by first | omega | (simp; omega)) (fun q hq => (O1.out.lt q hq).1)) hBg _
                  exact AllReadyN.nil
                exact AllReadyN.nil
              exact AllReadyN.nil
            refine AllReadyN.cons rfl (fun K hK => ?_) ?_
            · go_simp
              refine hK.out _ _ ?_ (fun hHeld => ?_)
              · (try dsimp only)
                first
                  | (refine ⟨⟨?_, ?_, ?_, ?_⟩, ?_⟩ <;> assumption)
                  | (refine ⟨⟨cell_keep ?_ b0, cell_keep ?_ b1, cell_keep ?_ b2, cell_keep ?_ b3⟩, cell_keep ?_ hq2⟩ <;> (go_grown; done))
              clear hK K
              try (unfold Act.put; dsimp only)
              refine wpAnyN_ready (rs := [5]) (by kernel_rfl) (by simp) ?_
              refine AllReadyN.cons rfl (fun K hK => ?_) ?_
              · go_simp
                go_at_call 29
                refine (lot_any x s m false _).mono ?_
                rintro e w5 ⟨rfl, rfl⟩
                dsimp only
                refine hK.out _ _ ?_ (fun hHeld => ?_)
                · (try dsimp only)
                  first
                    | (refine ⟨⟨?_, ?_, ?_, ?_⟩, ?_⟩ <;> assumption)
                    | (refine ⟨⟨cell_keep ?_ b0, cell_keep ?_ b1, cell_keep ?_ b2, cell_keep ?_ b3⟩, cell_keep ?_ hq2⟩ <;> (go_grown; done))
                clear hK K
                try (unfold Act.put; dsimp only)
                refine wpAnyN_take [9, 12, 15, 16] (i := 8) (v := ?_) rfl (by kernel_rfl) (by kernel_rfl) (by kernel_rfl) (by kernel_rfl) (by kernel_rfl) (fun _ _ _ h => h) (Or.inl ⟨by rfl, ?_⟩) (by assumption) ?_
                rotate_left
                focus
                  intro w hSw
                  (try dsimp only at hSw)
                  go_simp
                  try with_reducible rfl
                try (unfold Act.put; dsimp only)
                refine wpAnyN_take [12, 15, 16] (i := 9) (v := ?_) rfl (by kernel_rfl) (by kernel_rfl) (by kernel_rfl) (by kernel_rfl) (by kernel_rfl) (fun _ _ _ h => h) (Or.inl ⟨by rfl, ?_⟩) (by assumption) ?_
                rotate_left
                focus
                  intro w hSw
                  (try dsimp only at hSw)
                  go_simp
                  try with_reducible rfl
                try (unfold Act.put; dsimp only)
                refine wpAnyN_ready (rs := [12]) (by kernel_rfl) (by simp) ?_
                refine AllReadyN.cons rfl (fun K hK => ?_) ?_
                · refine step_append_lies _ (by rfl) _ _ _ (by rfl) B 33 i0 _ 4 32 Try.underlying30 hi0 hz0 hz1 hz2 rfl (by decide) (.slice A1 nb c1) nb (flatW l.b) (by rfl) (own_below O1.out (by go_grown)) _ 1 1 [.int .i64 x, .int .i64 s, .int .i64 m, .bool false] (by rfl) (by rfl) (World.news_of_block (cs := #[.int .i64 x, .int .i64 s, .int .i64 m, .bool false]) (t := 33) (fr := (0, 0)) (by (repeat (first | rw [heap_drew] | rw [heap_push])); simp)) (by simp [Value.oneCell']) (by decide) (by unfold maxLen; omega) (by omega) (by simp <;> omega) _ rfl ?_
                  intro gg cap w7 hown7 hgrow hat hlt7
                  have h7 := append_keep hgrow (by go_grown) HG.out N1.out
                  have y0 := append_cell hgrow (by go_grown) b0 hv1w
                  have y1 := append_cell hgrow (by go_grown) b1 hv1w
                  have y2 := append_cell hgrow (by go_grown) b2 hv1w
                  have y3 := append_cell hgrow (by go_grown) b3 hv1w
                  have k7 := cell_of8 h7
                  have kf7 := frozen_of7 h7 (j := 2)
                  have H7 := Lib.hid h7
                  have HW := Lib.hid hgrow
                  have HO := Lib.hid hown7
                  clear h7 hgrow hown7
                  refine hK.out _ _ ?_ (fun hHeld => ?_)
                  · (try dsimp only)
                    first
                      | (refine ⟨⟨?_, ?_, ?_, ?_⟩, ?_⟩ <;> assumption)
                      | (refine ⟨⟨cell_keep ?_ b0, cell_keep ?_ b1, cell_keep ?_ b2, cell_keep ?_ b3⟩, cell_keep ?_ hq2⟩ <;> (go_grown; done))
                  clear hK K
                  try (unfold Act.put; dsimp only)
                  refine wpAnyN_take [16] (i := 15) (v := ?_) rfl (by kernel_rfl) (by kernel_rfl) (by kernel_rfl) (by kernel_rfl) (by kernel_rfl) (fun _ _ _ h => h) (Or.inl ⟨by rfl, ?_⟩) (by assumption) ?_
                  rotate_left
                  focus
                    intro w hSw
                    (try dsimp only at hSw)
                    go_simp
                    try with_reducible rfl
                  try (unfold Act.put; dsimp only)
                  refine wpAnyN_ready (rs := [16]) (by kernel_rfl) (by simp) ?_
                  refine AllReadyN.last rfl rfl (fun K hK => ?_) ?_
                  · go_simp
                    refine hK.out _ _ ?_
                    clear hK K
                    try (unfold Act.put; dsimp only)
                    refine wpAnyN_done (by kernel_rfl) ?_ _
                    go_wp2
                    go_ret
                    have hr := store_1 (l := l) (b' := l.b ++ [⟨x, s, m, false⟩]) HG.out hBg (by rw [NA.out]; exact O0.out) (by rw [NB.out]; exact O1.out) N0.out N1.out n2 hS (by go_grown) HW.out (by rw [flatW_append, flatW_one, List.length_append, NB.out]; exact HO.out) rfl hat
                    refine ⟨by unfold errV; rw [hE0]; rfl, ?_, ?_, fun k hk => (hr.2 k hk).trans (hB3.block k (HSw k hk))⟩
                    · rw [hL1]; exact hr.1
                    · exact Below.setCell (Below.grown (hB3.trans (show Below w.heap.size w3 _ by first | (refine Below.mono ?_ hws3le; go_grown; done))  |>.mono hBw) HW.out (by first | omega | (simp; omega)) (fun q hq => (O1.out.lt q hq).1)) hBg _
                  exact AllReadyN.nil
                exact AllReadyN.nil
              exact AllReadyN.nil
            exact AllReadyN.nil
          refine AllReadyN.cons rfl (fun K hK => ?_) ?_
          · go_simp
            refine hK.out _ _ ?_ (fun hHeld => ?_)
            · (try dsimp only)
              first
                | (refine ⟨⟨?_, ?_, ?_, ?_⟩, ?_⟩ <;> assumption)
                | (refine ⟨⟨cell_keep ?_ b0, cell_keep ?_ b1, cell_keep ?_ b2, cell_keep ?_ b3⟩, cell_keep ?_ hq2⟩ <;> (go_grown; done))
            clear hK K
            try (unfold Act.put; dsimp only)
            refine wpAnyN_ready (rs := [2]) (by kernel_rfl) (by simp) ?_
            refine AllReadyN.cons rfl (fun K hK => ?_) ?_
            · go_simp
              go_at_call 29
              refine (lot_any x s m false _).mono ?_
              rintro e w5 ⟨rfl, rfl⟩
              dsimp only
              refine hK.out _ _ ?_ (fun hHeld => ?_)
              · (try dsimp only)
                first
                  | (refine ⟨⟨?_, ?_, ?_, ?_⟩, ?_⟩ <;> assumption)
                  | (refine ⟨⟨cell_keep ?_ b0, cell_keep ?_ b1, cell_keep ?_ b2, cell_keep ?_ b3⟩, cell_keep ?_ hq2⟩ <;> (go_grown; done))
              clear hK K
              try (unfold Act.put; dsimp only)
              refine wpAnyN_ready (rs := [5]) (by kernel_rfl) (by simp) ?_
              refine AllReadyN.cons rfl (fun K hK => ?_) ?_
              · go_simp
                go_at_call 29
                refine (lot_any x s m false _).mono ?_
                rintro e w5 ⟨rfl, rfl⟩
                dsimp only
                refine hK.out _ _ ?_ (fun hHeld => ?_)
                · (try dsimp only)
                  first
                    | (refine ⟨⟨?_, ?_, ?_, ?_⟩, ?_⟩ <;> assumption)
                    | (refine ⟨⟨cell_keep ?_ b0, cell_keep ?_ b1, cell_keep ?_ b2, cell_keep ?_ b3⟩, cell_keep ?_ hq2⟩ <;> (go_grown; done))
                clear hK K
                try (unfold Act.put; dsimp only)
                refine wpAnyN_take [9, 12, 15, 16] (i := 8) (v := ?_) rfl (by kernel_rfl) (by kernel_rfl) (by kernel_rfl) (by kernel_rfl) (by kernel_rfl) (fun _ _ _ h => h) (Or.inl ⟨by rfl, ?_⟩) (by assumption) ?_
                rotate_left
                focus
                  intro w hSw
                  (try dsimp only at hSw)
                  go_simp
                  try with_reducible rfl
                try (unfold Act.put; dsimp only)
                refine wpAnyN_take [12, 15, 16] (i := 9) (v := ?_) rfl (by kernel_rfl) (by kernel_rfl) (by kernel_rfl) (by kernel_rfl) (by kernel_rfl) (fun _ _ _ h => h) (Or.inl ⟨by rfl, ?_⟩) (by assumption) ?_
                rotate_left
                focus
                  intro w hSw
                  (try dsimp only at hSw)
                  go_simp
                  try with_reducible rfl
                try (unfold Act.put; dsimp only)
                refine wpAnyN_ready (rs := [12]) (by kernel_rfl) (by simp) ?_
                refine AllReadyN.cons rfl (fun K hK => ?_) ?_
                · refine step_append_lies _ (by rfl) _ _ _ (by rfl) B 33 i0 _ 4 32 Try.underlying30 hi0 hz0 hz1 hz2 rfl (by decide) (.slice A1 nb c1) nb (flatW l.b) (by rfl) (own_below O1.out (by go_grown)) _ 1 1 [.int .i64 x, .int .i64 s, .int .i64 m, .bool false] (by rfl) (by rfl) (World.news_of_block (cs := #[.int .i64 x, .int .i64 s, .int .i64 m, .bool false]) (t := 33) (fr := (0, 0)) (by (repeat (first | rw [heap_drew] | rw [heap_push])); simp)) (by simp [Value.oneCell']) (by decide) (by unfold maxLen; omega) (by omega) (by simp <;> omega) _ rfl ?_
                  intro gg cap w7 hown7 hgrow hat hlt7
                  have h7 := append_keep hgrow (by go_grown) HG.out N1.out
                  have y0 := append_cell hgrow (by go_grown) b0 hv1w
                  have y1 := append_cell hgrow (by go_grown) b1 hv1w
                  have y2 := append_cell hgrow (by go_grown) b2 hv1w
                  have y3 := append_cell hgrow (by go_grown) b3 hv1w
                  have k7 := cell_of8 h7
                  have kf7 := frozen_of7 h7 (j := 2)
                  have H7 := Lib.hid h7
                  have HW := Lib.hid hgrow
                  have HO := Lib.hid hown7
                  clear h7 hgrow hown7
                  refine hK.out _ _ ?_ (fun hHeld => ?_)
                  · (try dsimp only)
                    first
                      | (refine ⟨⟨?_, ?_, ?_, ?_⟩, ?_⟩ <;> assumption)
                      | (refine ⟨⟨cell_keep ?_ b0, cell_keep ?_ b1, cell_keep ?_ b2, cell_keep ?_ b3⟩, cell_keep ?_ hq2⟩ <;> (go_grown; done))
                  clear hK K
                  try (unfold Act.put; dsimp only)
                  refine wpAnyN_take [16] (i := 15) (v := ?_) rfl (by kernel_rfl) (by kernel_rfl) (by kernel_rfl) (by kernel_rfl) (by kernel_rfl) (fun _ _ _ h => h) (Or.inl ⟨by rfl, ?_⟩) (by assumption) ?_
                  rotate_left
                  focus
                    intro w hSw
                    (try dsimp only at hSw)
                    go_simp
                    try with_reducible rfl
                  try (unfold Act.put; dsimp only)
                  refine wpAnyN_ready (rs := [16]) (by kernel_rfl) (by simp) ?_
                  refine AllReadyN.last rfl rfl (fun K hK => ?_) ?_
                  · go_simp
                    refine hK.out _ _ ?_
                    clear hK K
                    try (unfold Act.put; dsimp only)
                    refine wpAnyN_done (by kernel_rfl) ?_ _
                    go_wp2
                    go_ret
                    have hr := store_1 (l := l) (b' := l.b ++ [⟨x, s, m, false⟩]) HG.out hBg (by rw [NA.out]; exact O0.out) (by rw [NB.out]; exact O1.out) N0.out N1.out n2 hS (by go_grown) HW.out (by rw [flatW_append, flatW_one, List.length_append, NB.out]; exact HO.out) rfl hat
                    refine ⟨by unfold errV; rw [hE0]; rfl, ?_, ?_, fun k hk => (hr.2 k hk).trans (hB3.block k (HSw k hk))⟩
                    · rw [hL1]; exact hr.1
                    · exact Below.setCell (Below.grown (hB3.trans (show Below w.heap.size w3 _ by first | (refine Below.mono ?_ hws3le; go_grown; done))  |>.mono hBw) HW.out (by first | omega | (simp; omega)) (fun q hq => (O1.out.lt q hq).1)) hBg _
                  exact AllReadyN.nil
                exact AllReadyN.nil
              exact AllReadyN.nil
            exact AllReadyN.nil
          exact AllReadyN.nil
        · skip
          refine wp_region_N (S := (fun w' => (w'.cell? ⟨w.heap.size, 0, none⟩ = some (.int .i64 x) ∧ w'.cell? ⟨w.heap.size, 1, none⟩ = some (.int .i64 s) ∧ w'.cell? ⟨w.heap.size, 2, none⟩ = some (.int .i64 m) ∧ w'.cell? ⟨w.heap.size, 3, none⟩ = some (.bool true)) ∧ w'.cell? ⟨g, 1, none⟩ = some (.slice A0 na c0))) (fun i => !(i == 16)) (by kernel_rfl) ?_ (fun hHeld => ?_)
          · (try dsimp only)
            first
              | (refine ⟨⟨?_, ?_, ?_, ?_⟩, ?_⟩ <;> assumption)
              | (refine ⟨⟨cell_keep ?_ b0, cell_keep ?_ b1, cell_keep ?_ b2, cell_keep ?_ b3⟩, cell_keep ?_ hq1⟩ <;> (go_grown; done))
          refine wpAnyN_take [13, 14, 15, 16] (i := 0) (v := ?_) rfl (by kernel_rfl) (by kernel_rfl) (by kernel_rfl) (by kernel_rfl) (by kernel_rfl) (fun _ _ _ h => h) (Or.inl ⟨by rfl, ?_⟩) (by assumption) ?_
          rotate_left
          focus
            intro w hSw
            (try dsimp only at hSw)
            go_simp
            try with_reducible rfl
          try (unfold Act.put; dsimp only)
          refine wpAnyN_take [2, 5, 8, 9, 12, 15, 16] (i := 1) (v := ?_) rfl (by kernel_rfl) (by kernel_rfl) (by kernel_rfl) (by kernel_rfl) (by kernel_rfl) (fun _ _ _ h => h) (Or.inl ⟨by rfl, ?_⟩) (by assumption) ?_
          rotate_left
          focus
            intro w hSw
            (try dsimp only at hSw)
            go_simp
            try with_reducible rfl
          try (unfold Act.put; dsimp only)
          refine wpAnyN_take [6, 7, 8, 9, 12, 15, 16] (i := 3) (v := ?_) rfl (by kernel_rfl) (by kernel_rfl) (by kernel_rfl) (by kernel_rfl) (by kernel_rfl) (fun _ _ _ h => h) (Or.inl ⟨by rfl, ?_⟩) (by assumption) ?_
          rotate_left
          focus
            intro w hSw
            (try dsimp only at hSw)
            go_simp
            try with_reducible rfl
          try (unfold Act.put; dsimp only)
          refine wpAnyN_take [5, 8, 9, 12, 15, 16] (i := 4) (v := ?_) rfl (by kernel_rfl) (by kernel_rfl) (by kernel_rfl) (by kernel_rfl) (by kernel_rfl) (fun _ _ _ h => h) (Or.inl ⟨by rfl, ?_⟩) (by assumption) ?_
          rotate_left
          focus
            intro w hSw
            (try dsimp only at hSw)
            go_simp
            try with_reducible rfl
          try (unfold Act.put; dsimp only)
          refine wpAnyN_take [7, 8, 9, 12, 15, 16] (i := 6) (v := ?_) rfl (by kernel_rfl) (by kernel_rfl) (by kernel_rfl) (by kernel_rfl) (by kernel_rfl) (fun _ _ _ h => h) (Or.inl ⟨by rfl, ?_⟩) (by assumption) ?_
          rotate_left
          focus
            intro w hSw
            (try dsimp only at hSw)
            go_simp
            try with_reducible rfl
          try (unfold Act.put; dsimp only)
          refine wpAnyN_take [8, 9, 12, 15, 16] (i := 7) (v := ?_) rfl (by kernel_rfl) (by kernel_rfl) (by kernel_rfl) (by kernel_rfl) (by kernel_rfl) (fun _ _ _ h => h) (Or.inl ⟨by rfl, ?_⟩) (by assumption) ?_
          rotate_left
          focus
            intro w hSw
            (try dsimp only at hSw)
            go_simp
            try with_reducible rfl
          try (unfold Act.put; dsimp only)
          refine wpAnyN_take [11, 12, 15, 16] (i := 10) (v := ?_) rfl (by kernel_rfl) (by kernel_rfl) (by kernel_rfl) (by kernel_rfl) (by kernel_rfl) (fun _ _ _ h => h) (Or.inl ⟨by rfl, ?_⟩) (by assumption) ?_
          rotate_left
          focus
            intro w hSw
            (try dsimp only at hSw)
            go_simp
            try with_reducible rfl
          try (unfold Act.put; dsimp only)
          refine wpAnyN_take [14, 15, 16] (i := 13) (v := ?_) rfl (by kernel_rfl) (by kernel_rfl) (by kernel_rfl) (by kernel_rfl) (by kernel_rfl) (fun _ _ _ h => h) (Or.inl ⟨by rfl, ?_⟩) (by assumption) ?_
          rotate_left
          focus
            intro w hSw
            (try dsimp only at hSw)
            go_simp
            try with_reducible rfl
          try (unfold Act.put; dsimp only)
          refine wpAnyN_take [15, 16] (i := 14) (v := ?_) rfl (by kernel_rfl) (by kernel_rfl) (by kernel_rfl) (by kernel_rfl) (by kernel_rfl) (fun _ _ _ h => h) (Or.inl ⟨by rfl, ?_⟩) (by assumption) ?_
          rotate_left
          focus
            intro w hSw
            (try dsimp only at hSw)
            go_simp
            try with_reducible rfl
          try (unfold Act.put; dsimp only)
          refine wpAnyN_ready (rs := [2, 11]) (by kernel_rfl) (by simp) ?_
          refine AllReadyN.cons rfl (fun K hK => ?_) ?_
          · go_simp
            go_at_call 29
            refine (lot_any x s m true _).mono ?_
            rintro e w5 ⟨rfl, rfl⟩
            dsimp only
            refine hK.out _ _ ?_ (fun hHeld => ?_)
            · (try dsimp only)
              first
                | (refine ⟨⟨?_, ?_, ?_, ?_⟩, ?_⟩ <;> assumption)
                | (refine ⟨⟨cell_keep ?_ b0, cell_keep ?_ b1, cell_keep ?_ b2, cell_keep ?_ b3⟩, cell_keep ?_ hq1⟩ <;> (go_grown; done))
            clear hK K
            try (unfold Act.put; dsimp only)
            refine wpAnyN_ready (rs := [5, 11]) (by kernel_rfl) (by simp) ?_
            refine AllReadyN.cons rfl (fun K hK => ?_) ?_
            · go_simp
              go_at_call 29
              refine (lot_any x s m true _).mono ?_
              rintro e w5 ⟨rfl, rfl⟩
              dsimp only
              refine hK.out _ _ ?_ (fun hHeld => ?_)
              · (try dsimp only)
                first
                  | (refine ⟨⟨?_, ?_, ?_, ?_⟩, ?_⟩ <;> assumption)
                  | (refine ⟨⟨cell_keep ?_ b0, cell_keep ?_ b1, cell_keep ?_ b2, cell_keep ?_ b3⟩, cell_keep ?_ hq1⟩ <;> (go_grown; done))
              clear hK K
              try (unfold Act.put; dsimp only)
              refine wpAnyN_take [9, 12, 15, 16] (i := 8) (v := ?_) rfl (by kernel_rfl) (by kernel_rfl) (by kernel_rfl) (by kernel_rfl) (by kernel_rfl) (fun _ _ _ h => h) (Or.inl ⟨by rfl, ?_⟩) (by assumption) ?_
              rotate_left
              focus
                intro w hSw
                (try dsimp only at hSw)
                go_simp
                try with_reducible rfl
              try (unfold Act.put; dsimp only)
              refine wpAnyN_take [12, 15, 16] (i := 9) (v := ?_) rfl (by kernel_rfl) (by kernel_rfl) (by kernel_rfl) (by kernel_rfl) (by kernel_rfl) (fun _ _ _ h => h) (Or.inl ⟨by rfl, ?_⟩) (by assumption) ?_
              rotate_left
              focus
                intro w hSw
                (try dsimp only at hSw)
                go_simp
                try with_reducible rfl
              try (unfold Act.put; dsimp only)
              refine wpAnyN_ready (rs := [11]) (by kernel_rfl) (by simp) ?_
              refine AllReadyN.cons rfl (fun K hK => ?_) ?_
              · go_simp
                refine hK.out _ _ ?_ (fun hHeld => ?_)
                · (try dsimp only)
                  first
                    | (refine ⟨⟨?_, ?_, ?_, ?_⟩, ?_⟩ <;> assumption)
                    | (refine ⟨⟨cell_keep ?_ b0, cell_keep ?_ b1, cell_keep ?_ b2, cell_keep ?_ b3⟩, cell_keep ?_ hq1⟩ <;> (go_grown; done))
                clear hK K
                try (unfold Act.put; dsimp only)
                refine wpAnyN_ready (rs := [12]) (by kernel_rfl) (by simp) ?_
                refine AllReadyN.cons rfl (fun K hK => ?_) ?_
                · refine step_append_lies _ (by rfl) _ _ _ (by rfl) B 33 i0 _ 4 32 Try.underlying30 hi0 hz0 hz1 hz2 rfl (by decide) (.slice A0 na c0) na (flatW l.a) (by rfl) (own_below O0.out (by go_grown)) _ 1 1 [.int .i64 x, .int .i64 s, .int .i64 m, .bool true] (by rfl) (by rfl) (World.news_of_block (cs := #[.int .i64 x, .int .i64 s, .int .i64 m, .bool true]) (t := 33) (fr := (0, 0)) (by (repeat (first | rw [heap_drew] | rw [heap_push])); simp)) (by simp [Value.oneCell']) (by decide) (by unfold maxLen; omega) (by omega) (by simp <;> omega) _ rfl ?_
                  intro gg cap w7 hown7 hgrow hat hlt7
                  have h7 := append_keep hgrow (by go_grown) HG.out N0.out
                  have y0 := append_cell hgrow (by go_grown) b0 hv0w
                  have y1 := append_cell hgrow (by go_grown) b1 hv0w
                  have y2 := append_cell hgrow (by go_grown) b2 hv0w
                  have y3 := append_cell hgrow (by go_grown) b3 hv0w
                  have k7 := cell_of7 h7
                  have kf7 := frozen_of7 h7 (j := 1)
                  have H7 := Lib.hid h7
                  have HW := Lib.hid hgrow
                  have HO := Lib.hid hown7
                  clear h7 hgrow hown7
                  refine hK.out _ _ ?_ (fun hHeld => ?_)
                  · (try dsimp only)
                    first
                      | (refine ⟨⟨?_, ?_, ?_, ?_⟩, ?_⟩ <;> assumption)
                      | (refine ⟨⟨cell_keep ?_ b0, cell_keep ?_ b1, cell_keep ?_ b2, cell_keep ?_ b3⟩, cell_keep ?_ hq1⟩ <;> (go_grown; done))
                  clear hK K
                  try (unfold Act.put; dsimp only)
                  refine wpAnyN_take [16] (i := 15) (v := ?_) rfl (by kernel_rfl) (by kernel_rfl) (by kernel_rfl) (by kernel_rfl) (by kernel_rfl) (fun _ _ _ h => h) (Or.inl ⟨by rfl, ?_⟩) (by assumption) ?_
                  rotate_left
                  focus
                    intro w hSw
                    (try dsimp only at hSw)
                    go_simp
                    try with_reducible rfl
                  try (unfold Act.put; dsimp only)
                  refine wpAnyN_ready (rs := [16]) (by kernel_rfl) (by simp) ?_
                  refine AllReadyN.last rfl rfl (fun K hK => ?_) ?_
                  · go_simp
                    refine hK.out _ _ ?_
                    clear hK K
                    try (unfold Act.put; dsimp only)
                    refine wpAnyN_done (by kernel_rfl) ?_ _
                    go_wp2
                    go_ret
                    have hr := store_0 (l := l) (a' := l.a ++ [⟨x, s, m, true⟩]) HG.out hBg (by rw [NA.out]; exact O0.out) (by rw [NB.out]; exact O1.out) N0.out N1.out n2 hS (by go_grown) HW.out (by rw [flatW_append, flatW_one, List.length_append, NA.out]; exact HO.out) rfl hat
                    refine ⟨by unfold errV; rw [hE0]; rfl, ?_, ?_, fun k hk => (hr.2 k hk).trans (hB3.block k (HSw k hk))⟩
                    · rw [hL1]; exact hr.1
                    · exact Below.setCell (Below.grown (hB3.trans (show Below w.heap.size w3 _ by first | (refine Below.mono ?_ hws3le; go_grown; done))  |>.mono hBw) HW.out (by first | omega | (simp; omega)) (fun q hq => (O0.out.lt q hq).1)) hBg _
                  exact AllReadyN.nil
                exact AllReadyN.nil
              exact AllReadyN.nil
            refine AllReadyN.cons rfl (fun K hK => ?_) ?_
            · go_simp
              refine hK.out _ _ ?_ (fun hHeld => ?_)
              · (try dsimp only)
                first
                  | (refine ⟨⟨?_, ?_, ?_, ?_⟩, ?_⟩ <;> assumption)
                  | (refine ⟨⟨cell_keep ?_ b0, cell_keep ?_ b1, cell_keep ?_ b2, cell_keep ?_ b3⟩, cell_keep ?_ hq1⟩ <;> (go_grown; done))
              clear hK K
              try (unfold Act.put; dsimp only)
              refine wpAnyN_ready (rs := [5]) (by kernel_rfl) (by simp) ?_
              refine AllReadyN.cons rfl (fun K hK => ?_) ?_
              · go_simp
                go_at_call 29
                refine (lot_any x s m true _).mono ?_
                rintro e w5 ⟨rfl, rfl⟩
                dsimp only
                refine hK.out _ _ ?_ (fun hHeld => ?_)
                · (try dsimp only)
                  first
                    | (refine ⟨⟨?_, ?_, ?_, ?_⟩, ?_⟩ <;> assumption)
                    | (refine ⟨⟨cell_keep ?_ b0, cell_keep ?_ b1, cell_keep ?_ b2, cell_keep ?_ b3⟩, cell_keep ?_ hq1⟩ <;> (go_grown; done))
                clear hK K
                try (unfold Act.put; dsimp only)
                refine wpAnyN_take [9, 12, 15, 16] (i := 8) (v := ?_) rfl (by kernel_rfl) (by kernel_rfl) (by kernel_rfl) (by kernel_rfl) (by kernel_rfl) (fun _ _ _ h => h) (Or.inl ⟨by rfl, ?_⟩) (by assumption) ?_
                rotate_left
                focus
                  intro w hSw
                  (try dsimp only at hSw)
                  go_simp
                  try with_reducible rfl
                try (unfold Act.put; dsimp only)
                refine wpAnyN_take [12, 15, 16] (i := 9) (v := ?_) rfl (by kernel_rfl) (by kernel_rfl) (by kernel_rfl) (by kernel_rfl) (by kernel_rfl) (fun _ _ _ h => h) (Or.inl ⟨by rfl, ?_⟩) (by assumption) ?_
                rotate_left
                focus
                  intro w hSw
                  (try dsimp only at hSw)
                  go_simp
                  try with_reducible rfl
                try (unfold Act.put; dsimp only)
                refine wpAnyN_ready (rs := [12]) (by kernel_rfl) (by simp) ?_
                refine AllReadyN.cons rfl (fun K hK => ?_) ?_
                · refine step_append_lies _ (by rfl) _ _ _ (by rfl) B 33 i0 _ 4 32 Try.underlying30 hi0 hz0 hz1 hz2 rfl (by decide) (.slice A0 na c0) na (flatW l.a) (by rfl) (own_below O0.out (by go_grown)) _ 1 1 [.int .i64 x, .int .i64 s, .int .i64 m, .bool true] (by rfl) (by rfl) (World.news_of_block (cs := #[.int .i64 x, .int .i64 s, .int .i64 m, .bool true]) (t := 33) (fr := (0, 0)) (by (repeat (first | rw [heap_drew] | rw [heap_push])); simp)) (by simp [Value.oneCell']) (by decide) (by unfold maxLen; omega) (by omega) (by simp <;> omega) _ rfl ?_
                  intro gg cap w7 hown7 hgrow hat hlt7
                  have h7 := append_keep hgrow (by go_grown) HG.out N0.out
                  have y0 := append_cell hgrow (by go_grown) b0 hv0w
                  have y1 := append_cell hgrow (by go_grown) b1 hv0w
                  have y2 := append_cell hgrow (by go_grown) b2 hv0w
                  have y3 := append_cell hgrow (by go_grown) b3 hv0w
                  have k7 := cell_of7 h7
                  have kf7 := frozen_of7 h7 (j := 1)
                  have H7 := Lib.hid h7
                  have HW := Lib.hid hgrow
                  have HO := Lib.hid hown7
                  clear h7 hgrow hown7
                  refine hK.out _ _ ?_ (fun hHeld => ?_)
                  · (try dsimp only)
                    first
                      | (refine ⟨⟨?_, ?_, ?_, ?_⟩, ?_⟩ <;> assumption)
                      | (refine ⟨⟨cell_keep ?_ b0, cell_keep ?_ b1, cell_keep ?_ b2, cell_keep ?_ b3⟩, cell_keep ?_ hq1⟩ <;> (go_grown; done))
                  clear hK K
                  try (unfold Act.put; dsimp only)
                  refine wpAnyN_take [16] (i := 15) (v := ?_) rfl (by kernel_rfl) (by kernel_rfl) (by kernel_rfl) (by kernel_rfl) (by kernel_rfl) (fun _ _ _ h => h) (Or.inl ⟨by rfl, ?_⟩) (by assumption) ?_
                  rotate_left
                  focus
                    intro w hSw
                    (try dsimp only at hSw)
                    go_simp
                    try with_reducible rfl
                  try (unfold Act.put; dsimp only)
                  refine wpAnyN_ready (rs := [16]) (by kernel_rfl) (by simp) ?_
                  refine AllReadyN.last rfl rfl (fun K hK => ?_) ?_
                  · go_simp
                    refine hK.out _ _ ?_
                    clear hK K
                    try (unfold Act.put; dsimp only)
                    refine wpAnyN_done (by kernel_rfl) ?_ _
                    go_wp2
                    go_ret
                    have hr := store_0 (l := l) (a' := l.a ++ [⟨x, s, m, true⟩]) HG.out hBg (by rw [NA.out]; exact O0.out) (by rw [NB.out]; exact O1.out) N0.out N1.out n2 hS (by go_grown) HW.out (by rw [flatW_append, flatW_one, List.length_append, NA.out]; exact HO.out) rfl hat
                    refine ⟨by unfold errV; rw [hE0]; rfl, ?_, ?_, fun k hk => (hr.2 k hk).trans (hB3.block k (HSw k hk))⟩
                    · rw [hL1]; exact hr.1
                    · exact Below.setCell (Below.grown (hB3.trans (show Below w.heap.size w3 _ by first | (refine Below.mono ?_ hws3le; go_grown; done))  |>.mono hBw) HW.out (by first | omega | (simp; omega)) (fun q hq => (O0.out.lt q hq).1)) hBg _
                  exact AllReadyN.nil
                exact AllReadyN.nil
              exact AllReadyN.nil
            exact AllReadyN.nil
          refine AllReadyN.cons rfl (fun K hK => ?_) ?_
          · go_simp
            refine hK.out _ _ ?_ (fun hHeld => ?_)
            · (try dsimp only)
              first
                | (refine ⟨⟨?_, ?_, ?_, ?_⟩, ?_⟩ <;> assumption)
                | (refine ⟨⟨cell_keep ?_ b0, cell_keep ?_ b1, cell_keep ?_ b2, cell_keep ?_ b3⟩, cell_keep ?_ hq1⟩ <;> (go_grown; done))
            clear hK K
            try (unfold Act.put; dsimp only)
            refine wpAnyN_ready (rs := [2]) (by kernel_rfl) (by simp) ?_
            refine AllReadyN.cons rfl (fun K hK => ?_) ?_
            · go_simp
              go_at_call 29
              refine (lot_any x s m true _).mono ?_
              rintro e w5 ⟨rfl, rfl⟩
              dsimp only
              refine hK.out _ _ ?_ (fun hHeld => ?_)
              · (try dsimp only)
                first
                  | (refine ⟨⟨?_, ?_, ?_, ?_⟩, ?_⟩ <;> assumption)
                  | (refine ⟨⟨cell_keep ?_ b0, cell_keep ?_ b1, cell_keep ?_ b2, cell_keep ?_ b3⟩, cell_keep ?_ hq1⟩ <;> (go_grown; done))
              clear hK K
              try (unfold Act.put; dsimp only)
              refine wpAnyN_ready (rs := [5]) (by kernel_rfl) (by simp) ?_
              refine AllReadyN.cons rfl (fun K hK => ?_) ?_
              · go_simp
                go_at_call 29
                refine (lot_any x s m true _).mono ?_
                rintro e w5 ⟨rfl, rfl⟩
                dsimp only
                refine hK.out _ _ ?_ (fun hHeld => ?_)
                · (try dsimp only)
                  first
                    | (refine ⟨⟨?_, ?_, ?_, ?_⟩, ?_⟩ <;> assumption)
                    | (refine ⟨⟨cell_keep ?_ b0, cell_keep ?_ b1, cell_keep ?_ b2, cell_keep ?_ b3⟩, cell_keep ?_ hq1⟩ <;> (go_grown; done))
                clear hK K
                try (unfold Act.put; dsimp only)
                refine wpAnyN_take [9, 12, 15, 16] (i := 8) (v := ?_) rfl (by kernel_rfl) (by kernel_rfl) (by kernel_rfl) (by kernel_rfl) (by kernel_rfl) (fun _ _ _ h => h) (Or.inl ⟨by rfl, ?_⟩) (by assumption) ?_
                rotate_left
                focus
                  intro w hSw
                  (try dsimp only at hSw)
                  go_simp
                  try with_reducible rfl
                try (unfold Act.put; dsimp only)
                refine wpAnyN_take [12, 15, 16] (i := 9) (v := ?_) rfl (by kernel_rfl) (by kernel_rfl) (by kernel_rfl) (by kernel_rfl) (by kernel_rfl) (fun _ _ _ h => h) (Or.inl ⟨by rfl, ?_⟩) (by assumption) ?_
                rotate_left
                focus
                  intro w hSw
                  (try dsimp only at hSw)
                  go_simp
                  try with_reducible rfl
                try (unfold Act.put; dsimp only)
                refine wpAnyN_ready (rs := [12]) (by kernel_rfl) (by simp) ?_
                refine AllReadyN.cons rfl (fun K hK => ?_) ?_
                · refine step_append_lies _ (by rfl) _ _ _ (by rfl) B 33 i0 _ 4 32 Try.underlying30 hi0 hz0 hz1 hz2 rfl (by decide) (.slice A0 na c0) na (flatW l.a) (by rfl) (own_below O0.out (by go_grown)) _ 1 1 [.int .i64 x, .int .i64 s, .int .i64 m, .bool true] (by rfl) (by rfl) (World.news_of_block (cs := #[.int .i64 x, .int .i64 s, .int .i64 m, .bool true]) (t := 33) (fr := (0, 0)) (by (repeat (first | rw [heap_drew] | rw [heap_push])); simp)) (by simp [Value.oneCell']) (by decide) (by unfold maxLen; omega) (by omega) (by simp <;> omega) _ rfl ?_
                  intro gg cap w7 hown7 hgrow hat hlt7
                  have h7 := append_keep hgrow (by go_grown) HG.out N0.out
                  have y0 := append_cell hgrow (by go_grown) b0 hv0w
                  have y1 := append_cell hgrow (by go_grown) b1 hv0w
                  have y2 := append_cell hgrow (by go_grown) b2 hv0w
                  have y3 := append_cell hgrow (by go_grown) b3 hv0w
                  have k7 := cell_of7 h7
                  have kf7 := frozen_of7 h7 (j := 1)
                  have H7 := Lib.hid h7
                  have HW := Lib.hid hgrow
                  have HO := Lib.hid hown7
                  clear h7 hgrow hown7
                  refine hK.out _ _ ?_ (fun hHeld => ?_)
                  · (try dsimp only)
                    first
                      | (refine ⟨⟨?_, ?_, ?_, ?_⟩, ?_⟩ <;> assumption)
                      | (refine ⟨⟨cell_keep ?_ b0, cell_keep ?_ b1, cell_keep ?_ b2, cell_keep ?_ b3⟩, cell_keep ?_ hq1⟩ <;> (go_grown; done))
                  clear hK K
                  try (unfold Act.put; dsimp only)
                  refine wpAnyN_take [16] (i := 15) (v := ?_) rfl (by kernel_rfl) (by kernel_rfl) (by kernel_rfl) (by kernel_rfl) (by kernel_rfl) (fun _ _ _ h => h) (Or.inl ⟨by rfl, ?_⟩) (by assumption) ?_
                  rotate_left
                  focus
                    intro w hSw
                    (try dsimp only at hSw)
                    go_simp
                    try with_reducible rfl
                  try (unfold Act.put; dsimp only)
                  refine wpAnyN_ready (rs := [16]) (by kernel_rfl) (by simp) ?_
                  refine AllReadyN.last rfl rfl (fun K hK => ?_) ?_
                  · go_simp
                    refine hK.out _ _ ?_
                    clear hK K
                    try (unfold Act.put; dsimp only)
                    refine wpAnyN_done (by kernel_rfl) ?_ _
                    go_wp2
                    go_ret
                    have hr := store_0 (l := l) (a' := l.a ++ [⟨x, s, m, true⟩]) HG.out hBg (by rw [NA.out]; exact O0.out) (by rw [NB.out]; exact O1.out) N0.out N1.out n2 hS (by go_grown) HW.out (by rw [flatW_append, flatW_one, List.length_append, NA.out]; exact HO.out) rfl hat
                    refine ⟨by unfold errV; rw [hE0]; rfl, ?_, ?_, fun k hk => (hr.2 k hk).trans (hB3.block k (HSw k hk))⟩
                    · rw [hL1]; exact hr.1
                    · exact Below.setCell (Below.grown (hB3.trans (show Below w.heap.size w3 _ by first | (refine Below.mono ?_ hws3le; go_grown; done))  |>.mono hBw) HW.out (by first | omega | (simp; omega)) (fun q hq => (O0.out.lt q hq).1)) hBg _
                  exact AllReadyN.nil
                exact AllReadyN.nil
              exact AllReadyN.nil
            exact AllReadyN.nil
          exact AllReadyN.nil
    · go_wp2
      go_ret
      exact push_same HX.out hB2 hBw (by unfold pushE; rw [if_neg (by rw [hok]; decide), if_pos hhas]) (by decide)
end Go.Proofs.Ytpbgdldaojpjkaa

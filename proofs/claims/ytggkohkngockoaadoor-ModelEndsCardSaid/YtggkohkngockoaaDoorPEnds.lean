/-
  catchboltlaw20.ModelEnds: behind any trace that may be each transaction that isn't decided may be aborted, then no transaction's event but a beginning may come, and what was committed stays so. The condition: errors.errorType reads as the program's text lays it.
-/
import Derived.Test.YtggkohkngockoaaDoorPBegins
import Derived.Test.YtggkohkngockoaaDoorPEndsF
namespace Go.Proofs.YtggkohkngockoaaDoor
open Go.ChangeShapes Go.WideShapes Go.ChangeAt Go.RowKit Go.Maps
set_option linter.unusedVariables false
set_option linter.unusedSimpArgs false

theorem step_append_evs {ops : Array Oper} {o : Oper} {a : Act} {w : World} {K : Act → World → Prop} {Q : Exit → Act → World → Prop} {E' : Prop} (hgd : o.guard = none) (s x : Operand)
    (ho : o.op = .call { callee := .builtin .append, args := #[s, x], argTypes := #[22, 22] }) (hty : o.type = 22)
    (B : Nat) (v : Value) (k : Nat) (xs : List Ev) (hs : a.eval s = v) (hown : w.ownsRow B 43 7 v k (evV xs)) (A : Option Addr) (n c : Nat) (bs : List Ev) (hx : a.eval x = .slice A n c) (hl : bs.length = n) (h : RdE w A bs) (hB : B ≤ w.heap.size) (hk : k + n ≤ 1000000) (kn : Nat) (hkn : k + n = kn)
    (hK : ∀ A' c' w', w'.ownsRow B 43 7 (.slice A' kn c') kn (evV (xs ++ bs)) → w.grownBy w' v.ownBlock → K (a.put o.dst (.slice A' kn c')) w') :
    if Region.wanted o (yielded ops a.tmps) = true then Oper.wp Tryd.prog o a w K Q else E' := by
  subst hkn
  have hw : Region.wanted o (yielded ops a.tmps) = true := by simp [Region.wanted, hgd]
  rw [if_pos hw]
  obtain ⟨v', w', hrun, h2, h3, _⟩ := run_append_evs B v k xs w hown A n c bs hl h hB hk
  obtain ⟨_, A', c', rfl, _, _⟩ := rde_of_own h2
  unfold Oper.wp execOp
  simp only [ho, hty, resolve, invoke, builtin, Sem.run_bind, Sem.run_pure, Result.andThen_ok, List.map_toArray, List.map_cons, List.map_nil, hs, hx, hrun]
  exact hK A' c' w' h2 h3
theorem rde_own {w : World} {B : Nat} {T : TypeId} {A : Option Addr} {n c : Nat} {es : List Ev} (h : w.ownsRow B T 7 (.slice A n c) n (evV es)) : RdE w A es ∧ es.length = n := by
  obtain ⟨h1, A', c', e, _, h2⟩ := rde_of_own h
  simp at e
  obtain ⟨rfl, rfl⟩ := e
  exact ⟨h2, h1⟩
theorem grown_keep {W w7 : World} {g k n c : Nat} {o : Obj} (hg : W.grownBy w7 (Value.ownBlock (.slice (some ⟨g, 0, none⟩) n c))) (hne : k ≠ g) (h : W.heap[k]? = some o) : w7.heap[k]? = some o :=
  (hg.block k (lt_of_block h) (fun e => hne (by simpa [Value.ownBlock] using e))).trans h
theorem own_at_empty {w : World} {g B : Nat} (h : w.heap[g]? = some (.cells #[] 43 (0, 0))) (hB : B ≤ g) : w.ownsRow B 43 7 (.slice (some ⟨g, 0, none⟩) 0 0) 0 (evV []) :=
  ⟨rfl, .inr ⟨g, 0, #[], rfl, hB, h, Nat.le_refl _, Nat.zero_le _, rfl, rfl⟩⟩

theorem lastM_in {l : List Ev} (ho : okF start l 0 = true) (k : Nat) : 0 ≤ lastM (l.take k) ∧ lastM (l.take k) ≤ l.length := by
  have h := ok_take ho k
  rw [last_all h]
  have := (stok_after stok_start h).len
  rw [Nat.zero_add, List.length_take] at this
  omega

/- append(append([]Event{}, all...), ev) and Check of it, in a region that draws its order: X the world ahead of it (wx), the event's cells there -/
set_option maxRecDepth 100000 in
set_option maxHeartbeats 8000000 in
theorem ends_true (A0 : Option Addr) (n cp : Nat) (es : List Ev) (a : Int) (ek ec ex et er em eq : Int) (w : World) (hE : ErrT w) (hr : RdE w A0 es) (hl : es.length = n) (hcp : n ≤ cp) (ha : 0 ≤ a ∧ a < 256) :
    Calls Tryd.prog 6 #[.slice A0 n cp, .int .u8 a, .agg #[.int .i64 ek, .int .i64 ec, .int .i64 ex, .int .i64 et, .int .i64 er, .int .i64 em, .int .i64 eq]] w fun e w' => e = .returned (.bool true) ∧ Below w.heap.size w w' := by
  have hbA : Below w.heap.size w (w.alloc (.cells #[.int .i64 ek, .int .i64 ec, .int .i64 ex, .int .i64 et, .int .i64 er, .int .i64 em, .int .i64 eq] 43)) := (Below.refl _ _).alloc (Nat.le_refl _) _
  have hbx : (w.alloc (.cells #[.int .i64 ek, .int .i64 ec, .int .i64 ex, .int .i64 et, .int .i64 er, .int .i64 em, .int .i64 eq] 43)).heap[w.heap.size]? = some (.cells #[.int .i64 ek, .int .i64 ec, .int .i64 ex, .int .i64 et, .int .i64 er, .int .i64 em, .int .i64 eq] 43 (0, 0)) := by rw [heap_push, if_pos rfl]
  have HE := Lib.hid hE
  have HR := Lib.hid hr
  have HL := Lib.hid hl
  have HCP := Lib.hid hcp
  have HAL := Lib.hid (alive_true (w.alloc (.cells #[.int .i64 ek, .int .i64 ec, .int .i64 ex, .int .i64 et, .int .i64 er, .int .i64 em, .int .i64 eq] 43)) (hE.below hbA))
  have HBX := Lib.hid hbx
  have HBA := Lib.hid hbA
  obtain ⟨a0, a1⟩ := ha
  have haw : IntKind.i64.wrap a = a := IntWalk.i64_in _ (by omega)
  obtain ⟨cc, hcc⟩ : ∃ cc, 1 + a % 5 = cc := ⟨_, rfl⟩
  have hct : 1 + a.tmod 5 = cc := by rw [Int.tmod_eq_emod_of_nonneg a0]; exact hcc
  have hc1 : 1 ≤ cc := by omega
  have hc5 : cc ≤ 5 := by omega
  clear hE hr hl hcp hbA hbx
  go_enter Tryd.func6, Tryd.ntmps6
  by_cases h60 : n ≤ 60
  · have h60' : ¬ 60 < (n : Int) := by omega
    go_wp2_with fail
    refine HAL.out.mono ?_
    rintro e w1 ⟨rfl, hb1⟩
    have HB1 := Lib.hid (HBA.out.trans (hb1.mono HBA.out.size))
    have HX1 := Lib.hid ((hb1.block w.heap.size (by simp)).trans HBX.out)
    have HRT := Lib.hid (right_any A0 n cp es w1 (HE.out.below HB1.out) (HR.out.below HB1.out (Nat.le_refl _)) HL.out HCP.out (by omega))
    clear hb1
    go_wp2_with fail
    refine HRT.out.mono ?_
    rintro e w2 ⟨rfl, hb2⟩
    have HB2 := Lib.hid (HB1.out.trans (hb2.mono HB1.out.size))
    have HX2 := Lib.hid ((hb2.block w.heap.size (lt_of_block HX1.out)).trans HX1.out)
    have hle := right_le es
    have hok := right_ok es
    have hrr := right_rd (HR.out.below HB2.out (Nat.le_refl _))
    obtain ⟨rl, hrl⟩ : ∃ rl, rightF es = rl := ⟨_, rfl⟩
    rw [hrl] at hle hok hrr ⊢
    obtain ⟨R, hRR⟩ : ∃ R, rl.length = R := ⟨_, rfl⟩
    rw [hRR] at hle ⊢
    have hR60 : R ≤ 60 := by have := HL.out; omega
    have HOK := Lib.hid hok
    have HRLN := Lib.hid hRR
    have HRD := Lib.hid hrr
    have HSG := Lib.hid (serial_good A0 R cp rl w2 hrr hRR (by omega) (play_ok hok))
    clear hb2 HRT hle hok hrr hrl hRR
    go_wp2_with fail
    refine HSG.out.mono ?_
    rintro e w3 ⟨⟨v3, rfl, hown3⟩, hb3⟩
    obtain ⟨hls, AS, cs, rfl, _, _, hrs, _⟩ := rdn_of_own hown3
    have HB3 := Lib.hid (HB2.out.trans (hb3.mono HB2.out.size))
    have HX3 := Lib.hid ((hb3.block w.heap.size (lt_of_block HX2.out)).trans HX2.out)
    have HRD3 := Lib.hid (HRD.out.below hb3 (Nat.le_refl _))
    have HRS := Lib.hid hrs
    have hsl : (after start rl 0).serial.length ≤ 60 := by
      have := (stok_after stok_start HOK.out).slen
      rw [HRLN.out] at this; omega
    obtain ⟨ns, hns⟩ : ∃ ns, (after start rl 0).serial.length = ns := ⟨_, rfl⟩
    rw [hns] at hsl ⊢
    have HNS := Lib.hid hns
    clear hown3 hb3 hrs hls HSG hns
    go_wp2_with (at_builtin; refine wpList_append_evs rfl _ _ rfl rfl w3.heap.size (.slice (some ⟨w3.heap.size, 0, none⟩) 0 0) 0 [] rfl (own_empty_ev w3 _ (Nat.le_refl _) _) A0 R cp rl rfl HRLN.out (HRD3.out.below ((Below.refl _ _).alloc (Nat.le_refl _) _ : Below w3.heap.size w3 _) (Nat.le_refl _)) (by simp) (by omega) ?_; intro v6 w6 hown6 hgrow6; rw [Nat.zero_add, List.nil_append] at hown6; obtain ⟨_, A6, c6, rfl, _, _⟩ := rde_of_own hown6; have HO6 := Lib.hid hown6; have HG6 := Lib.hid (show Below w3.heap.size w3 w6 from ((Below.refl _ _).alloc (Nat.le_refl _) _ : Below w3.heap.size w3 _).grown hgrow6 (by simp) (fun k hk => by simp [Value.ownBlock] at hk; omega)); clear hown6 hgrow6)
    have HB6 := Lib.hid (HB3.out.trans (HG6.out.mono HB3.out.size))
    have HRD6 := Lib.hid (HRD3.out.below HG6.out (Nat.le_refl _))
    go_loop [11, 12] (fun m i => ∃ k : Nat, k ≤ R ∧ i = .int .i64 k ∧ m = .int .i64 (lastM (rl.take k))) (fun _ i => R - (intOf i).toNat)
    case atStart => exact ⟨0, Nat.zero_le _, rfl, rfl⟩
    case round =>
      obtain ⟨k, hk, rfl, rfl⟩ := hrel
      have hin := lastM_in HOK.out k
      rw [HRLN.out] at hin
      by_cases hlt : k < R
      · have hlt' : (k : Int) < R := by omega
        obtain ⟨ge, oe, hA, hc⟩ := HRD6.out
        obtain ⟨rfl, lge⟩ := hA (by rw [HRLN.out]; omega)
        obtain ⟨p0, p1, p2, _⟩ := hc k (by rw [HRLN.out]; exact hlt)
        have hsn : lastM (rl.take (k + 1)) = lastStepM (lastM (rl.take k)) (rl.getD k Ev.none) := by rw [take_snoc (by rw [HRLN.out]; exact hlt), lastM_snoc]
        have hin2 := lastM_in HOK.out (k + 1)
        obtain ⟨E, hE⟩ : ∃ E, rl.getD k Ev.none = E := ⟨_, rfl⟩
        rw [hE] at p0 p2 hsn
        obtain ⟨m, hm⟩ : ∃ m, lastM (rl.take k) = m := ⟨_, rfl⟩
        rw [hm] at hsn hin ⊢
        have HSN := Lib.hid hsn
        obtain ⟨Ek, hEk⟩ : ∃ q, E.kind = q := ⟨_, rfl⟩
        obtain ⟨Et, hEt⟩ : ∃ q, E.tx = q := ⟨_, rfl⟩
        rw [hEk] at p0
        rw [hEt] at p2
        have HEK := Lib.hid hEk
        have HET := Lib.hid hEt
        obtain ⟨hi0, hi1⟩ := hin
        clear hA hc hE hm hsn hin2 hEk hEt
        by_cases h1 : Ek = 1
        · subst h1
          by_cases h2 : m < Et
          · have hs : lastM (rl.take (k + 1)) = Et := by
              rw [HSN.out]; unfold lastStepM
              rw [HEK.out, HET.out, if_pos rfl]; omega
            have HS := Lib.hid hs
            have h2' : ¬ Et ≤ m := by omega
            have h2'' : m ≤ Et := by omega
            clear hs
            go_wp2
            go_round
            case rel => exact ⟨k + 1, by omega, by go_num, by rw [HS.out]⟩
            case measure => simp [intOf]; omega
          · have hs : lastM (rl.take (k + 1)) = m := by
              rw [HSN.out]; unfold lastStepM
              rw [HEK.out, HET.out, if_pos rfl]; omega
            have HS := Lib.hid hs
            have h2' : Et ≤ m := by omega
            clear hs
            go_wp2
            go_round
            case rel => exact ⟨k + 1, by omega, by go_num, by rw [HS.out]⟩
            case measure => simp [intOf]; omega
        · have h1b : (Ek == 1) = false := by simpa using h1
          have hs : lastM (rl.take (k + 1)) = m := by
            rw [HSN.out]; unfold lastStepM
            rw [HEK.out, if_neg h1]
          have HS := Lib.hid hs
          clear hs h1
          go_wp2
          go_round
          case rel => exact ⟨k + 1, by omega, by go_num, by rw [HS.out]⟩
          case measure => simp [intOf]; omega
      · have hkR : k = R := by omega
        subst hkR
        have hge : ¬ (k : Int) < k := by omega
        have hla : lastM (rl.take k) = ((after start rl 0).all.length : Int) := by
          rw [List.take_of_length_le (by rw [HRLN.out]; exact Nat.le_refl _), last_all HOK.out]
        rw [hla] at hin ⊢
        obtain ⟨N, hN⟩ : ∃ N, (after start rl 0).all.length = N := ⟨_, rfl⟩
        rw [hN] at hin ⊢
        have hN60 : N ≤ 60 := by omega
        have HN := Lib.hid hN
        clear hla hN hin
        go_wp2_with fail
        go_loopw [10, 13] (fun al tx wr => ∃ (q : Nat) (l : List Ev) (A : Option Addr) (c : Nat), tx = .int .i64 q ∧ al = .slice A l.length c ∧ wr.ownsRow w3.heap.size 43 7 (.slice A l.length c) l.length (evV l) ∧ EndsAt rl l q ∧ Below w3.heap.size w3 wr) (fun _ tx _ => (intOf tx).toNat)
        case atStart => exact ⟨N, rl, A6, c6, rfl, by rw [HRLN.out], by rw [HRLN.out]; exact HO6.out, by rw [← HN.out]; exact ends_start HOK.out, HG6.out⟩
        case round =>
          obtain ⟨q, l, A, c, rfl, rfl, hown, hen, hbr⟩ := hrel
          have hln : l.length ≤ 120 := by have h1 := hen.small; have h2 := HRLN.out; have h3 := HN.out; omega
          have hrl0 := (rde_of_own hown).2
          obtain ⟨_, _, hsl, _, hrl⟩ := hrl0
          obtain ⟨rfl, rfl⟩ : A = _ ∧ c = _ := by simpa using hsl
          clear hsl
          have HOWN := Lib.hid hown
          have HEN := Lib.hid hen
          have HBR := Lib.hid hbr
          have HLN := Lib.hid hln
          have HRLr := Lib.hid hrl
          clear hown hen hbr hln hrl
          cases q with
          | succ q =>
            have ecast : ((q + 1 : Nat) : Int) = (q : Int) + 1 := by omega
            rw [ecast]
            have hq1 : 1 ≤ (q : Int) + 1 := by omega
            have hq2 : (q : Int) + 1 ≤ 1000 := by have := HEN.out.qle; have := HN.out; omega
            clear ecast
            go_wp2_with fail
            generalize hwx : wr.alloc (.cells #[.int .i64 7, .int .i64 0, .int .i64 ((q : Int) + 1), .int .i64 0, .int .i64 0, .int .i64 0, .int .i64 cc] 43) = wx
            have hkx : wx.heap[wr.heap.size]? = some (.cells #[.int .i64 7, .int .i64 0, .int .i64 ((q : Int) + 1), .int .i64 0, .int .i64 0, .int .i64 0, .int .i64 cc] 43 (0, 0)) := by rw [← hwx, heap_push, if_pos rfl]
            have hbw : Below wr.heap.size wr wx := by rw [← hwx]; exact (Below.refl _ _).alloc (Nat.le_refl _) _
            have lxr : wr.heap.size < wx.heap.size := lt_of_block hkx
            have nxr : ¬ wr.heap.size = wx.heap.size := by omega
            have x0 := heap_cell hkx (j := 0) rfl
            have x1 := heap_cell hkx (j := 1) rfl
            have x2 := heap_cell hkx (j := 2) rfl
            have x3 := heap_cell hkx (j := 3) rfl
            have x4 := heap_cell hkx (j := 4) rfl
            have x5 := heap_cell hkx (j := 5) rfl
            have x6 := heap_cell hkx (j := 6) rfl
            have HBW := Lib.hid hbw
            have HRL := Lib.hid (HRLr.out.below hbw (Nat.le_refl _))
            clear hwx hkx hbw
            by_cases h3 : ((after start l 0).tx ((q : Int) + 1)).state = 3
            · have HPL := Lib.hid (HEN.out.skip_play ⟨hc1, hc5⟩ h3)
              have H3 := Lib.hid h3
              clear h3
              refine wp_region_N (S := (fun w' => w'.cell? ⟨wr.heap.size, 0, none⟩ = some (.int .i64 7) ∧ w'.cell? ⟨wr.heap.size, 1, none⟩ = some (.int .i64 0) ∧ w'.cell? ⟨wr.heap.size, 2, none⟩ = some (.int .i64 ((q : Int) + 1)) ∧ w'.cell? ⟨wr.heap.size, 3, none⟩ = some (.int .i64 0) ∧ w'.cell? ⟨wr.heap.size, 4, none⟩ = some (.int .i64 0) ∧ w'.cell? ⟨wr.heap.size, 5, none⟩ = some (.int .i64 0) ∧ w'.cell? ⟨wr.heap.size, 6, none⟩ = some (.int .i64 cc))) (fun i => !(i == 5 || i == 6 || i == 7)) (by kernel_rfl) ?_ (fun hHeld => ?_)
              · (try dsimp only)
                first
                  | (refine ⟨?_, ?_, ?_, ?_, ?_, ?_, ?_⟩ <;> with_reducible assumption)
                  | (refine ⟨cell_keep ?_ x0, cell_keep ?_ x1, cell_keep ?_ x2, cell_keep ?_ x3, cell_keep ?_ x4, cell_keep ?_ x5, cell_keep ?_ x6⟩ <;> first | exact HB7.out | (refine HB7.out.trans (Below.mono (show Below w7.heap.size w7 _ from ?_) HB7.out.size); go_grown; done) | (go_grown; done))
              refine wpAnyN_take [2, 5, 6, 7] (i := 1) (v := ?_) rfl (by kernel_rfl) (by kernel_rfl) (by kernel_rfl) (by kernel_rfl) (by kernel_rfl) (fun _ _ _ h => h) (Or.inl ⟨by first | kernel_rfl | rfl, ?_⟩) (by assumption) ?_
              rotate_left
              focus
                intro w hSw
                (try dsimp only at hSw)
                go_simp
                try with_reducible rfl
              (try change wpAnyN _ _ _ _ _ _ _ _ (Act.put _ (some 66) _) _)
              try (unfold Act.put; dsimp only)
              refine wpAnyN_take [4, 5, 6, 7] (i := 3) (v := ?_) rfl (by kernel_rfl) (by kernel_rfl) (by kernel_rfl) (by kernel_rfl) (by kernel_rfl) (fun _ _ _ h => h) (Or.inl ⟨by first | kernel_rfl | rfl, ?_⟩) (by assumption) ?_
              rotate_left
              focus
                intro w hSw
                (try dsimp only at hSw)
                go_simp
                try with_reducible rfl
              (try change wpAnyN _ _ _ _ _ _ _ _ (Act.put _ (some 68) _) _)
              try (unfold Act.put; dsimp only)
              refine wpAnyN_ready (rs := [0, 4]) (by kernel_rfl) (by simp) ?_
              refine AllReadyN.cons rfl (fun K hK => ?_) ?_
              · go_simp
                refine hK.out _ _ ?_ (fun hHeld => ?_)
                · (try dsimp only)
                  first
                    | (refine ⟨?_, ?_, ?_, ?_, ?_, ?_, ?_⟩ <;> with_reducible assumption)
                    | (refine ⟨cell_keep ?_ x0, cell_keep ?_ x1, cell_keep ?_ x2, cell_keep ?_ x3, cell_keep ?_ x4, cell_keep ?_ x5, cell_keep ?_ x6⟩ <;> first | exact HB7.out | (refine HB7.out.trans (Below.mono (show Below w7.heap.size w7 _ from ?_) HB7.out.size); go_grown; done) | (go_grown; done))
                clear hK K
                (try change wpAnyN _ _ _ _ _ _ _ _ (Act.put _ (some 65) _) _)
                try (unfold Act.put; dsimp only)
                refine wpAnyN_ready (rs := [2, 4]) (by kernel_rfl) (by simp) ?_
                refine AllReadyN.cons rfl (fun K hK => ?_) ?_
                · first
                    | (refine step_append_evs rfl _ _ rfl rfl wx.heap.size (.slice (some ⟨wx.heap.size, 0, none⟩) 0 0) 0 [] (by rfl) (own_at_empty (by (repeat (first | rw [heap_drew] | rw [heap_push])); simp; done) (Nat.le_refl _)) A l.length c l (by rfl) rfl (HRL.out.below (show Below wx.heap.size wx _ by go_grown) (Nat.le_refl _)) (by first | (simp; done) | (simp; omega)) (by have := HLN.out; omega) l.length (Nat.zero_add _) ?_
                       intro A2 c2 w7 hown7 hgrow7
                       have HO7 := Lib.hid hown7
                       have HB7 := Lib.hid (show Below wx.heap.size wx w7 from append_below hgrow7 (show Below wx.heap.size wx _ by go_grown) (Below.refl _ _) (Nat.le_refl _) (fun k hk => by simp [Value.ownBlock] at hk; omega))
                       have HG7 := Lib.hid hgrow7
                       clear hown7 hgrow7)
                    | (refine step_append_evs rfl _ _ rfl rfl wx.heap.size (.slice (some ⟨wx.heap.size + 1, 0, none⟩) 0 0) 0 [] (by rfl) (own_at_empty (by (repeat (first | rw [heap_drew] | rw [heap_push])); simp; done) (Nat.le_succ _)) A l.length c l (by rfl) rfl (HRL.out.below (show Below wx.heap.size wx _ by go_grown) (Nat.le_refl _)) (by first | (simp; done) | (simp; omega)) (by have := HLN.out; omega) l.length (Nat.zero_add _) ?_
                       intro A2 c2 w7 hown7 hgrow7
                       have HO7 := Lib.hid hown7
                       have HB7 := Lib.hid (show Below wx.heap.size wx w7 from append_below hgrow7 (show Below wx.heap.size wx _ by go_grown) (Below.refl _ _) (Nat.le_refl _) (fun k hk => by simp [Value.ownBlock] at hk; omega))
                       have HG7 := Lib.hid hgrow7
                       clear hown7 hgrow7)
                  refine hK.out _ _ ?_ (fun hHeld => ?_)
                  · (try dsimp only)
                    first
                      | (refine ⟨?_, ?_, ?_, ?_, ?_, ?_, ?_⟩ <;> with_reducible assumption)
                      | (refine ⟨cell_keep ?_ x0, cell_keep ?_ x1, cell_keep ?_ x2, cell_keep ?_ x3, cell_keep ?_ x4, cell_keep ?_ x5, cell_keep ?_ x6⟩ <;> first | exact HB7.out | (refine HB7.out.trans (Below.mono (show Below w7.heap.size w7 _ from ?_) HB7.out.size); go_grown; done) | (go_grown; done))
                  clear hK K
                  (try change wpAnyN _ _ _ _ _ _ _ _ (Act.put _ (some 67) _) _)
                  try (unfold Act.put; dsimp only)
                  refine wpAnyN_ready (rs := [4]) (by kernel_rfl) (by simp) ?_
                  refine AllReadyN.cons rfl (fun K hK => ?_) ?_
                  · go_simp
                    refine hK.out _ _ ?_ (fun hHeld => ?_)
                    · (try dsimp only)
                      first
                        | (refine ⟨?_, ?_, ?_, ?_, ?_, ?_, ?_⟩ <;> with_reducible assumption)
                        | (refine ⟨cell_keep ?_ x0, cell_keep ?_ x1, cell_keep ?_ x2, cell_keep ?_ x3, cell_keep ?_ x4, cell_keep ?_ x5, cell_keep ?_ x6⟩ <;> first | exact HB7.out | (refine HB7.out.trans (Below.mono (show Below w7.heap.size w7 _ from ?_) HB7.out.size); go_grown; done) | (go_grown; done))
                    clear hK K
                    (try change wpAnyN _ _ _ _ _ _ _ _ (Act.put _ (some 69) _) _)
                    try (unfold Act.put; dsimp only)
                    refine wpAnyN_ready (rs := [5]) (by kernel_rfl) (by simp) ?_
                    refine AllReadyN.last rfl rfl (fun K hK => ?_) ?_
                    · first
                        | (refine step_append_evs rfl _ _ rfl rfl wx.heap.size (.slice A2 l.length c2) l.length ([] ++ l) (by rfl) HO7.out (some ⟨wx.heap.size + 1, 0, none⟩) 1 1 [abt ((q : Int) + 1) cc] (by rfl) rfl (rde_of_block (cs := #[.int .i64 7, .int .i64 0, .int .i64 ((q : Int) + 1), .int .i64 0, .int .i64 0, .int .i64 0, .int .i64 cc]) (T := 43) (fr := (0, 0)) (grown_keep HG7.out (by first | omega | (simp; done)) (by (repeat (first | rw [heap_drew] | rw [heap_push])); simp)) rfl) HB7.out.size (by have := HLN.out; omega) _ rfl ?_
                           intro A3 c3 w9 hown9 hgrow9
                           have HO9 := Lib.hid hown9
                           have HB9 := Lib.hid (show Below wx.heap.size wx w9 from HB7.out.grown hgrow9 HB7.out.size (fun k hk => (HO7.out.lt k hk).1))
                           clear hown9 hgrow9)
                        | (refine step_append_evs rfl _ _ rfl rfl wx.heap.size (.slice A2 l.length c2) l.length ([] ++ l) (by rfl) HO7.out (some ⟨wx.heap.size, 0, none⟩) 1 1 [abt ((q : Int) + 1) cc] (by rfl) rfl (rde_of_block (cs := #[.int .i64 7, .int .i64 0, .int .i64 ((q : Int) + 1), .int .i64 0, .int .i64 0, .int .i64 0, .int .i64 cc]) (T := 43) (fr := (0, 0)) (grown_keep HG7.out (by first | omega | (simp; done)) (by (repeat (first | rw [heap_drew] | rw [heap_push])); simp)) rfl) HB7.out.size (by have := HLN.out; omega) _ rfl ?_
                           intro A3 c3 w9 hown9 hgrow9
                           have HO9 := Lib.hid hown9
                           have HB9 := Lib.hid (show Below wx.heap.size wx w9 from HB7.out.grown hgrow9 HB7.out.size (fun k hk => (HO7.out.lt k hk).1))
                           clear hown9 hgrow9)
                        | (refine step_append_evs rfl _ _ rfl rfl wx.heap.size (.slice A2 l.length c2) l.length ([] ++ l) (by rfl) (own_below HO7.out (by go_grown)) (some ⟨w7.heap.size, 0, none⟩) 1 1 [abt ((q : Int) + 1) cc] (by rfl) rfl (rde_of_block (cs := #[.int .i64 7, .int .i64 0, .int .i64 ((q : Int) + 1), .int .i64 0, .int .i64 0, .int .i64 0, .int .i64 cc]) (T := 43) (fr := (0, 0)) (by (repeat (first | rw [heap_drew] | rw [heap_push])); simp; done) rfl) (by have := HB7.out.size; first | (simp; done) | (simp; omega) | omega) (by have := HLN.out; omega) _ rfl ?_
                           intro A3 c3 w9 hown9 hgrow9
                           have HO9 := Lib.hid hown9
                           have HB9 := Lib.hid (show Below wx.heap.size wx w9 from (HB7.out.trans (show Below wx.heap.size w7 _ from Below.mono (show Below w7.heap.size w7 _ by go_grown) HB7.out.size)).grown hgrow9 (by have := HB7.out.size; first | (simp; done) | (simp; omega) | omega) (fun k hk => (HO7.out.lt k hk).1))
                           clear hown9 hgrow9)
                      refine hK.out _ _ ?_
                      clear hK K
                      (try change wpAnyN _ _ _ _ _ _ _ _ (Act.put _ (some 70) _) _)
                      try (unfold Act.put; dsimp only)
                      refine wpAnyN_ready (rs := [6]) (by kernel_rfl) (by simp) ?_
                      refine AllReadyN.last rfl rfl (fun K hK => ?_) ?_
                      · go_simp
                        go_at_call 8
                        refine (check_bad A3 (l.length + 1) c3 ([] ++ l ++ [abt ((q : Int) + 1) cc]) w9 (rde_own HO9.out).1 (rde_own HO9.out).2 (by have := HLN.out; omega) (i := l.length) (k := 11) HPL.out).mono ?_
                        rintro e w10 ⟨⟨b10, rfl, -⟩, hb10⟩
                        have HB10 := Lib.hid (HB9.out.trans (hb10.mono HB9.out.size))
                        clear hb10
                        dsimp only
                        refine hK.out _ _ ?_
                        clear hK K
                        (try change wpAnyN _ _ _ _ _ _ _ _ (Act.put _ (some 71) _) _)
                        try (unfold Act.put; dsimp only)
                        refine wpAnyN_ready (rs := [7]) (by kernel_rfl) (by simp) ?_
                        refine AllReadyN.last rfl rfl (fun K hK => ?_) ?_
                        · go_simp
                          refine hK.out _ _ ?_
                          clear hK K
                          (try change wpAnyN _ _ _ _ _ _ _ _ (Act.put _ (some 72) _) _)
                          try (unfold Act.put; dsimp only)
                          refine wpAnyN_done (by kernel_rfl) ?_ _
                          skip
                          go_wp2
                          go_roundw
                          case rel => exact ⟨q, l, A, c, by first | rfl | go_num, rfl, own_below HOWN.out (HBW.out.trans (HB10.out.mono HBW.out.size)), HEN.out.skip H3.out, HBR.out.trans ((HBW.out.trans (HB10.out.mono HBW.out.size)).mono HBR.out.size)⟩
                          case measure => first | (simp [intOf]; done) | (simp [intOf]; omega)
                        exact AllReadyN.nil
                      exact AllReadyN.nil
                    exact AllReadyN.nil
                  exact AllReadyN.nil
                refine AllReadyN.cons rfl (fun K hK => ?_) ?_
                · go_simp
                  refine hK.out _ _ ?_ (fun hHeld => ?_)
                  · (try dsimp only)
                    first
                      | (refine ⟨?_, ?_, ?_, ?_, ?_, ?_, ?_⟩ <;> with_reducible assumption)
                      | (refine ⟨cell_keep ?_ x0, cell_keep ?_ x1, cell_keep ?_ x2, cell_keep ?_ x3, cell_keep ?_ x4, cell_keep ?_ x5, cell_keep ?_ x6⟩ <;> first | exact HB7.out | (refine HB7.out.trans (Below.mono (show Below w7.heap.size w7 _ from ?_) HB7.out.size); go_grown; done) | (go_grown; done))
                  clear hK K
                  (try change wpAnyN _ _ _ _ _ _ _ _ (Act.put _ (some 69) _) _)
                  try (unfold Act.put; dsimp only)
                  refine wpAnyN_ready (rs := [2]) (by kernel_rfl) (by simp) ?_
                  refine AllReadyN.cons rfl (fun K hK => ?_) ?_
                  · first
                      | (refine step_append_evs rfl _ _ rfl rfl wx.heap.size (.slice (some ⟨wx.heap.size, 0, none⟩) 0 0) 0 [] (by rfl) (own_at_empty (by (repeat (first | rw [heap_drew] | rw [heap_push])); simp; done) (Nat.le_refl _)) A l.length c l (by rfl) rfl (HRL.out.below (show Below wx.heap.size wx _ by go_grown) (Nat.le_refl _)) (by first | (simp; done) | (simp; omega)) (by have := HLN.out; omega) l.length (Nat.zero_add _) ?_
                         intro A2 c2 w7 hown7 hgrow7
                         have HO7 := Lib.hid hown7
                         have HB7 := Lib.hid (show Below wx.heap.size wx w7 from append_below hgrow7 (show Below wx.heap.size wx _ by go_grown) (Below.refl _ _) (Nat.le_refl _) (fun k hk => by simp [Value.ownBlock] at hk; omega))
                         have HG7 := Lib.hid hgrow7
                         clear hown7 hgrow7)
                      | (refine step_append_evs rfl _ _ rfl rfl wx.heap.size (.slice (some ⟨wx.heap.size + 1, 0, none⟩) 0 0) 0 [] (by rfl) (own_at_empty (by (repeat (first | rw [heap_drew] | rw [heap_push])); simp; done) (Nat.le_succ _)) A l.length c l (by rfl) rfl (HRL.out.below (show Below wx.heap.size wx _ by go_grown) (Nat.le_refl _)) (by first | (simp; done) | (simp; omega)) (by have := HLN.out; omega) l.length (Nat.zero_add _) ?_
                         intro A2 c2 w7 hown7 hgrow7
                         have HO7 := Lib.hid hown7
                         have HB7 := Lib.hid (show Below wx.heap.size wx w7 from append_below hgrow7 (show Below wx.heap.size wx _ by go_grown) (Below.refl _ _) (Nat.le_refl _) (fun k hk => by simp [Value.ownBlock] at hk; omega))
                         have HG7 := Lib.hid hgrow7
                         clear hown7 hgrow7)
                    refine hK.out _ _ ?_ (fun hHeld => ?_)
                    · (try dsimp only)
                      first
                        | (refine ⟨?_, ?_, ?_, ?_, ?_, ?_, ?_⟩ <;> with_reducible assumption)
                        | (refine ⟨cell_keep ?_ x0, cell_keep ?_ x1, cell_keep ?_ x2, cell_keep ?_ x3, cell_keep ?_ x4, cell_keep ?_ x5, cell_keep ?_ x6⟩ <;> first | exact HB7.out | (refine HB7.out.trans (Below.mono (show Below w7.heap.size w7 _ from ?_) HB7.out.size); go_grown; done) | (go_grown; done))
                    clear hK K
                    (try change wpAnyN _ _ _ _ _ _ _ _ (Act.put _ (some 67) _) _)
                    try (unfold Act.put; dsimp only)
                    refine wpAnyN_ready (rs := [5]) (by kernel_rfl) (by simp) ?_
                    refine AllReadyN.last rfl rfl (fun K hK => ?_) ?_
                    · first
                        | (refine step_append_evs rfl _ _ rfl rfl wx.heap.size (.slice A2 l.length c2) l.length ([] ++ l) (by rfl) HO7.out (some ⟨wx.heap.size + 1, 0, none⟩) 1 1 [abt ((q : Int) + 1) cc] (by rfl) rfl (rde_of_block (cs := #[.int .i64 7, .int .i64 0, .int .i64 ((q : Int) + 1), .int .i64 0, .int .i64 0, .int .i64 0, .int .i64 cc]) (T := 43) (fr := (0, 0)) (grown_keep HG7.out (by first | omega | (simp; done)) (by (repeat (first | rw [heap_drew] | rw [heap_push])); simp)) rfl) HB7.out.size (by have := HLN.out; omega) _ rfl ?_
                           intro A3 c3 w9 hown9 hgrow9
                           have HO9 := Lib.hid hown9
                           have HB9 := Lib.hid (show Below wx.heap.size wx w9 from HB7.out.grown hgrow9 HB7.out.size (fun k hk => (HO7.out.lt k hk).1))
                           clear hown9 hgrow9)
                        | (refine step_append_evs rfl _ _ rfl rfl wx.heap.size (.slice A2 l.length c2) l.length ([] ++ l) (by rfl) HO7.out (some ⟨wx.heap.size, 0, none⟩) 1 1 [abt ((q : Int) + 1) cc] (by rfl) rfl (rde_of_block (cs := #[.int .i64 7, .int .i64 0, .int .i64 ((q : Int) + 1), .int .i64 0, .int .i64 0, .int .i64 0, .int .i64 cc]) (T := 43) (fr := (0, 0)) (grown_keep HG7.out (by first | omega | (simp; done)) (by (repeat (first | rw [heap_drew] | rw [heap_push])); simp)) rfl) HB7.out.size (by have := HLN.out; omega) _ rfl ?_
                           intro A3 c3 w9 hown9 hgrow9
                           have HO9 := Lib.hid hown9
                           have HB9 := Lib.hid (show Below wx.heap.size wx w9 from HB7.out.grown hgrow9 HB7.out.size (fun k hk => (HO7.out.lt k hk).1))
                           clear hown9 hgrow9)
                        | (refine step_append_evs rfl _ _ rfl rfl wx.heap.size (.slice A2 l.length c2) l.length ([] ++ l) (by rfl) (own_below HO7.out (by go_grown)) (some ⟨w7.heap.size, 0, none⟩) 1 1 [abt ((q : Int) + 1) cc] (by rfl) rfl (rde_of_block (cs := #[.int .i64 7, .int .i64 0, .int .i64 ((q : Int) + 1), .int .i64 0, .int .i64 0, .int .i64 0, .int .i64 cc]) (T := 43) (fr := (0, 0)) (by (repeat (first | rw [heap_drew] | rw [heap_push])); simp; done) rfl) (by have := HB7.out.size; first | (simp; done) | (simp; omega) | omega) (by have := HLN.out; omega) _ rfl ?_
                           intro A3 c3 w9 hown9 hgrow9
                           have HO9 := Lib.hid hown9
                           have HB9 := Lib.hid (show Below wx.heap.size wx w9 from (HB7.out.trans (show Below wx.heap.size w7 _ from Below.mono (show Below w7.heap.size w7 _ by go_grown) HB7.out.size)).grown hgrow9 (by have := HB7.out.size; first | (simp; done) | (simp; omega) | omega) (fun k hk => (HO7.out.lt k hk).1))
                           clear hown9 hgrow9)
                      refine hK.out _ _ ?_
                      clear hK K
                      (try change wpAnyN _ _ _ _ _ _ _ _ (Act.put _ (some 70) _) _)
                      try (unfold Act.put; dsimp only)
                      refine wpAnyN_ready (rs := [6]) (by kernel_rfl) (by simp) ?_
                      refine AllReadyN.last rfl rfl (fun K hK => ?_) ?_
                      · go_simp
                        go_at_call 8
                        refine (check_bad A3 (l.length + 1) c3 ([] ++ l ++ [abt ((q : Int) + 1) cc]) w9 (rde_own HO9.out).1 (rde_own HO9.out).2 (by have := HLN.out; omega) (i := l.length) (k := 11) HPL.out).mono ?_
                        rintro e w10 ⟨⟨b10, rfl, -⟩, hb10⟩
                        have HB10 := Lib.hid (HB9.out.trans (hb10.mono HB9.out.size))
                        clear hb10
                        dsimp only
                        refine hK.out _ _ ?_
                        clear hK K
                        (try change wpAnyN _ _ _ _ _ _ _ _ (Act.put _ (some 71) _) _)
                        try (unfold Act.put; dsimp only)
                        refine wpAnyN_ready (rs := [7]) (by kernel_rfl) (by simp) ?_
                        refine AllReadyN.last rfl rfl (fun K hK => ?_) ?_
                        · go_simp
                          refine hK.out _ _ ?_
                          clear hK K
                          (try change wpAnyN _ _ _ _ _ _ _ _ (Act.put _ (some 72) _) _)
                          try (unfold Act.put; dsimp only)
                          refine wpAnyN_done (by kernel_rfl) ?_ _
                          skip
                          go_wp2
                          go_roundw
                          case rel => exact ⟨q, l, A, c, by first | rfl | go_num, rfl, own_below HOWN.out (HBW.out.trans (HB10.out.mono HBW.out.size)), HEN.out.skip H3.out, HBR.out.trans ((HBW.out.trans (HB10.out.mono HBW.out.size)).mono HBR.out.size)⟩
                          case measure => first | (simp [intOf]; done) | (simp [intOf]; omega)
                        exact AllReadyN.nil
                      exact AllReadyN.nil
                    exact AllReadyN.nil
                  exact AllReadyN.nil
                exact AllReadyN.nil
              refine AllReadyN.cons rfl (fun K hK => ?_) ?_
              · go_simp
                refine hK.out _ _ ?_ (fun hHeld => ?_)
                · (try dsimp only)
                  first
                    | (refine ⟨?_, ?_, ?_, ?_, ?_, ?_, ?_⟩ <;> with_reducible assumption)
                    | (refine ⟨cell_keep ?_ x0, cell_keep ?_ x1, cell_keep ?_ x2, cell_keep ?_ x3, cell_keep ?_ x4, cell_keep ?_ x5, cell_keep ?_ x6⟩ <;> first | exact HB7.out | (refine HB7.out.trans (Below.mono (show Below w7.heap.size w7 _ from ?_) HB7.out.size); go_grown; done) | (go_grown; done))
                clear hK K
                (try change wpAnyN _ _ _ _ _ _ _ _ (Act.put _ (some 69) _) _)
                try (unfold Act.put; dsimp only)
                refine wpAnyN_ready (rs := [0]) (by kernel_rfl) (by simp) ?_
                refine AllReadyN.cons rfl (fun K hK => ?_) ?_
                · go_simp
                  refine hK.out _ _ ?_ (fun hHeld => ?_)
                  · (try dsimp only)
                    first
                      | (refine ⟨?_, ?_, ?_, ?_, ?_, ?_, ?_⟩ <;> with_reducible assumption)
                      | (refine ⟨cell_keep ?_ x0, cell_keep ?_ x1, cell_keep ?_ x2, cell_keep ?_ x3, cell_keep ?_ x4, cell_keep ?_ x5, cell_keep ?_ x6⟩ <;> first | exact HB7.out | (refine HB7.out.trans (Below.mono (show Below w7.heap.size w7 _ from ?_) HB7.out.size); go_grown; done) | (go_grown; done))
                  clear hK K
                  (try change wpAnyN _ _ _ _ _ _ _ _ (Act.put _ (some 65) _) _)
                  try (unfold Act.put; dsimp only)
                  refine wpAnyN_ready (rs := [2]) (by kernel_rfl) (by simp) ?_
                  refine AllReadyN.cons rfl (fun K hK => ?_) ?_
                  · first
                      | (refine step_append_evs rfl _ _ rfl rfl wx.heap.size (.slice (some ⟨wx.heap.size, 0, none⟩) 0 0) 0 [] (by rfl) (own_at_empty (by (repeat (first | rw [heap_drew] | rw [heap_push])); simp; done) (Nat.le_refl _)) A l.length c l (by rfl) rfl (HRL.out.below (show Below wx.heap.size wx _ by go_grown) (Nat.le_refl _)) (by first | (simp; done) | (simp; omega)) (by have := HLN.out; omega) l.length (Nat.zero_add _) ?_
                         intro A2 c2 w7 hown7 hgrow7
                         have HO7 := Lib.hid hown7
                         have HB7 := Lib.hid (show Below wx.heap.size wx w7 from append_below hgrow7 (show Below wx.heap.size wx _ by go_grown) (Below.refl _ _) (Nat.le_refl _) (fun k hk => by simp [Value.ownBlock] at hk; omega))
                         have HG7 := Lib.hid hgrow7
                         clear hown7 hgrow7)
                      | (refine step_append_evs rfl _ _ rfl rfl wx.heap.size (.slice (some ⟨wx.heap.size + 1, 0, none⟩) 0 0) 0 [] (by rfl) (own_at_empty (by (repeat (first | rw [heap_drew] | rw [heap_push])); simp; done) (Nat.le_succ _)) A l.length c l (by rfl) rfl (HRL.out.below (show Below wx.heap.size wx _ by go_grown) (Nat.le_refl _)) (by first | (simp; done) | (simp; omega)) (by have := HLN.out; omega) l.length (Nat.zero_add _) ?_
                         intro A2 c2 w7 hown7 hgrow7
                         have HO7 := Lib.hid hown7
                         have HB7 := Lib.hid (show Below wx.heap.size wx w7 from append_below hgrow7 (show Below wx.heap.size wx _ by go_grown) (Below.refl _ _) (Nat.le_refl _) (fun k hk => by simp [Value.ownBlock] at hk; omega))
                         have HG7 := Lib.hid hgrow7
                         clear hown7 hgrow7)
                    refine hK.out _ _ ?_ (fun hHeld => ?_)
                    · (try dsimp only)
                      first
                        | (refine ⟨?_, ?_, ?_, ?_, ?_, ?_, ?_⟩ <;> with_reducible assumption)
                        | (refine ⟨cell_keep ?_ x0, cell_keep ?_ x1, cell_keep ?_ x2, cell_keep ?_ x3, cell_keep ?_ x4, cell_keep ?_ x5, cell_keep ?_ x6⟩ <;> first | exact HB7.out | (refine HB7.out.trans (Below.mono (show Below w7.heap.size w7 _ from ?_) HB7.out.size); go_grown; done) | (go_grown; done))
                    clear hK K
                    (try change wpAnyN _ _ _ _ _ _ _ _ (Act.put _ (some 67) _) _)
                    try (unfold Act.put; dsimp only)
                    refine wpAnyN_ready (rs := [5]) (by kernel_rfl) (by simp) ?_
                    refine AllReadyN.last rfl rfl (fun K hK => ?_) ?_
                    · first
                        | (refine step_append_evs rfl _ _ rfl rfl wx.heap.size (.slice A2 l.length c2) l.length ([] ++ l) (by rfl) HO7.out (some ⟨wx.heap.size + 1, 0, none⟩) 1 1 [abt ((q : Int) + 1) cc] (by rfl) rfl (rde_of_block (cs := #[.int .i64 7, .int .i64 0, .int .i64 ((q : Int) + 1), .int .i64 0, .int .i64 0, .int .i64 0, .int .i64 cc]) (T := 43) (fr := (0, 0)) (grown_keep HG7.out (by first | omega | (simp; done)) (by (repeat (first | rw [heap_drew] | rw [heap_push])); simp)) rfl) HB7.out.size (by have := HLN.out; omega) _ rfl ?_
                           intro A3 c3 w9 hown9 hgrow9
                           have HO9 := Lib.hid hown9
                           have HB9 := Lib.hid (show Below wx.heap.size wx w9 from HB7.out.grown hgrow9 HB7.out.size (fun k hk => (HO7.out.lt k hk).1))
                           clear hown9 hgrow9)
                        | (refine step_append_evs rfl _ _ rfl rfl wx.heap.size (.slice A2 l.length c2) l.length ([] ++ l) (by rfl) HO7.out (some ⟨wx.heap.size, 0, none⟩) 1 1 [abt ((q : Int) + 1) cc] (by rfl) rfl (rde_of_block (cs := #[.int .i64 7, .int .i64 0, .int .i64 ((q : Int) + 1), .int .i64 0, .int .i64 0, .int .i64 0, .int .i64 cc]) (T := 43) (fr := (0, 0)) (grown_keep HG7.out (by first | omega | (simp; done)) (by (repeat (first | rw [heap_drew] | rw [heap_push])); simp)) rfl) HB7.out.size (by have := HLN.out; omega) _ rfl ?_
                           intro A3 c3 w9 hown9 hgrow9
                           have HO9 := Lib.hid hown9
                           have HB9 := Lib.hid (show Below wx.heap.size wx w9 from HB7.out.grown hgrow9 HB7.out.size (fun k hk => (HO7.out.lt k hk).1))
                           clear hown9 hgrow9)
                        | (refine step_append_evs rfl _ _ rfl rfl wx.heap.size (.slice A2 l.length c2) l.length ([] ++ l) (by rfl) (own_below HO7.out (by go_grown)) (some ⟨w7.heap.size, 0, none⟩) 1 1 [abt ((q : Int) + 1) cc] (by rfl) rfl (rde_of_block (cs := #[.int .i64 7, .int .i64 0, .int .i64 ((q : Int) + 1), .int .i64 0, .int .i64 0, .int .i64 0, .int .i64 cc]) (T := 43) (fr := (0, 0)) (by (repeat (first | rw [heap_drew] | rw [heap_push])); simp; done) rfl) (by have := HB7.out.size; first | (simp; done) | (simp; omega) | omega) (by have := HLN.out; omega) _ rfl ?_
                           intro A3 c3 w9 hown9 hgrow9
                           have HO9 := Lib.hid hown9
                           have HB9 := Lib.hid (show Below wx.heap.size wx w9 from (HB7.out.trans (show Below wx.heap.size w7 _ from Below.mono (show Below w7.heap.size w7 _ by go_grown) HB7.out.size)).grown hgrow9 (by have := HB7.out.size; first | (simp; done) | (simp; omega) | omega) (fun k hk => (HO7.out.lt k hk).1))
                           clear hown9 hgrow9)
                      refine hK.out _ _ ?_
                      clear hK K
                      (try change wpAnyN _ _ _ _ _ _ _ _ (Act.put _ (some 70) _) _)
                      try (unfold Act.put; dsimp only)
                      refine wpAnyN_ready (rs := [6]) (by kernel_rfl) (by simp) ?_
                      refine AllReadyN.last rfl rfl (fun K hK => ?_) ?_
                      · go_simp
                        go_at_call 8
                        refine (check_bad A3 (l.length + 1) c3 ([] ++ l ++ [abt ((q : Int) + 1) cc]) w9 (rde_own HO9.out).1 (rde_own HO9.out).2 (by have := HLN.out; omega) (i := l.length) (k := 11) HPL.out).mono ?_
                        rintro e w10 ⟨⟨b10, rfl, -⟩, hb10⟩
                        have HB10 := Lib.hid (HB9.out.trans (hb10.mono HB9.out.size))
                        clear hb10
                        dsimp only
                        refine hK.out _ _ ?_
                        clear hK K
                        (try change wpAnyN _ _ _ _ _ _ _ _ (Act.put _ (some 71) _) _)
                        try (unfold Act.put; dsimp only)
                        refine wpAnyN_ready (rs := [7]) (by kernel_rfl) (by simp) ?_
                        refine AllReadyN.last rfl rfl (fun K hK => ?_) ?_
                        · go_simp
                          refine hK.out _ _ ?_
                          clear hK K
                          (try change wpAnyN _ _ _ _ _ _ _ _ (Act.put _ (some 72) _) _)
                          try (unfold Act.put; dsimp only)
                          refine wpAnyN_done (by kernel_rfl) ?_ _
                          skip
                          go_wp2
                          go_roundw
                          case rel => exact ⟨q, l, A, c, by first | rfl | go_num, rfl, own_below HOWN.out (HBW.out.trans (HB10.out.mono HBW.out.size)), HEN.out.skip H3.out, HBR.out.trans ((HBW.out.trans (HB10.out.mono HBW.out.size)).mono HBR.out.size)⟩
                          case measure => first | (simp [intOf]; done) | (simp [intOf]; omega)
                        exact AllReadyN.nil
                      exact AllReadyN.nil
                    exact AllReadyN.nil
                  exact AllReadyN.nil
                exact AllReadyN.nil
              exact AllReadyN.nil
            · have HPL := Lib.hid (HEN.out.more ⟨hc1, hc5⟩ h3).1
              have H3 := Lib.hid h3
              clear h3
              refine wp_region_N (S := (fun w' => w'.cell? ⟨wr.heap.size, 0, none⟩ = some (.int .i64 7) ∧ w'.cell? ⟨wr.heap.size, 1, none⟩ = some (.int .i64 0) ∧ w'.cell? ⟨wr.heap.size, 2, none⟩ = some (.int .i64 ((q : Int) + 1)) ∧ w'.cell? ⟨wr.heap.size, 3, none⟩ = some (.int .i64 0) ∧ w'.cell? ⟨wr.heap.size, 4, none⟩ = some (.int .i64 0) ∧ w'.cell? ⟨wr.heap.size, 5, none⟩ = some (.int .i64 0) ∧ w'.cell? ⟨wr.heap.size, 6, none⟩ = some (.int .i64 cc))) (fun i => !(i == 5 || i == 6 || i == 7)) (by kernel_rfl) ?_ (fun hHeld => ?_)
              · (try dsimp only)
                first
                  | (refine ⟨?_, ?_, ?_, ?_, ?_, ?_, ?_⟩ <;> with_reducible assumption)
                  | (refine ⟨cell_keep ?_ x0, cell_keep ?_ x1, cell_keep ?_ x2, cell_keep ?_ x3, cell_keep ?_ x4, cell_keep ?_ x5, cell_keep ?_ x6⟩ <;> first | exact HB7.out | (refine HB7.out.trans (Below.mono (show Below w7.heap.size w7 _ from ?_) HB7.out.size); go_grown; done) | (go_grown; done))
              refine wpAnyN_take [2, 5, 6, 7] (i := 1) (v := ?_) rfl (by kernel_rfl) (by kernel_rfl) (by kernel_rfl) (by kernel_rfl) (by kernel_rfl) (fun _ _ _ h => h) (Or.inl ⟨by first | kernel_rfl | rfl, ?_⟩) (by assumption) ?_
              rotate_left
              focus
                intro w hSw
                (try dsimp only at hSw)
                go_simp
                try with_reducible rfl
              (try change wpAnyN _ _ _ _ _ _ _ _ (Act.put _ (some 66) _) _)
              try (unfold Act.put; dsimp only)
              refine wpAnyN_take [4, 5, 6, 7] (i := 3) (v := ?_) rfl (by kernel_rfl) (by kernel_rfl) (by kernel_rfl) (by kernel_rfl) (by kernel_rfl) (fun _ _ _ h => h) (Or.inl ⟨by first | kernel_rfl | rfl, ?_⟩) (by assumption) ?_
              rotate_left
              focus
                intro w hSw
                (try dsimp only at hSw)
                go_simp
                try with_reducible rfl
              (try change wpAnyN _ _ _ _ _ _ _ _ (Act.put _ (some 68) _) _)
              try (unfold Act.put; dsimp only)
              refine wpAnyN_ready (rs := [0, 4]) (by kernel_rfl) (by simp) ?_
              refine AllReadyN.cons rfl (fun K hK => ?_) ?_
              · go_simp
                refine hK.out _ _ ?_ (fun hHeld => ?_)
                · (try dsimp only)
                  first
                    | (refine ⟨?_, ?_, ?_, ?_, ?_, ?_, ?_⟩ <;> with_reducible assumption)
                    | (refine ⟨cell_keep ?_ x0, cell_keep ?_ x1, cell_keep ?_ x2, cell_keep ?_ x3, cell_keep ?_ x4, cell_keep ?_ x5, cell_keep ?_ x6⟩ <;> first | exact HB7.out | (refine HB7.out.trans (Below.mono (show Below w7.heap.size w7 _ from ?_) HB7.out.size); go_grown; done) | (go_grown; done))
                clear hK K
                (try change wpAnyN _ _ _ _ _ _ _ _ (Act.put _ (some 65) _) _)
                try (unfold Act.put; dsimp only)
                refine wpAnyN_ready (rs := [2, 4]) (by kernel_rfl) (by simp) ?_
                refine AllReadyN.cons rfl (fun K hK => ?_) ?_
                · first
                    | (refine step_append_evs rfl _ _ rfl rfl wx.heap.size (.slice (some ⟨wx.heap.size, 0, none⟩) 0 0) 0 [] (by rfl) (own_at_empty (by (repeat (first | rw [heap_drew] | rw [heap_push])); simp; done) (Nat.le_refl _)) A l.length c l (by rfl) rfl (HRL.out.below (show Below wx.heap.size wx _ by go_grown) (Nat.le_refl _)) (by first | (simp; done) | (simp; omega)) (by have := HLN.out; omega) l.length (Nat.zero_add _) ?_
                       intro A2 c2 w7 hown7 hgrow7
                       have HO7 := Lib.hid hown7
                       have HB7 := Lib.hid (show Below wx.heap.size wx w7 from append_below hgrow7 (show Below wx.heap.size wx _ by go_grown) (Below.refl _ _) (Nat.le_refl _) (fun k hk => by simp [Value.ownBlock] at hk; omega))
                       have HG7 := Lib.hid hgrow7
                       clear hown7 hgrow7)
                    | (refine step_append_evs rfl _ _ rfl rfl wx.heap.size (.slice (some ⟨wx.heap.size + 1, 0, none⟩) 0 0) 0 [] (by rfl) (own_at_empty (by (repeat (first | rw [heap_drew] | rw [heap_push])); simp; done) (Nat.le_succ _)) A l.length c l (by rfl) rfl (HRL.out.below (show Below wx.heap.size wx _ by go_grown) (Nat.le_refl _)) (by first | (simp; done) | (simp; omega)) (by have := HLN.out; omega) l.length (Nat.zero_add _) ?_
                       intro A2 c2 w7 hown7 hgrow7
                       have HO7 := Lib.hid hown7
                       have HB7 := Lib.hid (show Below wx.heap.size wx w7 from append_below hgrow7 (show Below wx.heap.size wx _ by go_grown) (Below.refl _ _) (Nat.le_refl _) (fun k hk => by simp [Value.ownBlock] at hk; omega))
                       have HG7 := Lib.hid hgrow7
                       clear hown7 hgrow7)
                  refine hK.out _ _ ?_ (fun hHeld => ?_)
                  · (try dsimp only)
                    first
                      | (refine ⟨?_, ?_, ?_, ?_, ?_, ?_, ?_⟩ <;> with_reducible assumption)
                      | (refine ⟨cell_keep ?_ x0, cell_keep ?_ x1, cell_keep ?_ x2, cell_keep ?_ x3, cell_keep ?_ x4, cell_keep ?_ x5, cell_keep ?_ x6⟩ <;> first | exact HB7.out | (refine HB7.out.trans (Below.mono (show Below w7.heap.size w7 _ from ?_) HB7.out.size); go_grown; done) | (go_grown; done))
                  clear hK K
                  (try change wpAnyN _ _ _ _ _ _ _ _ (Act.put _ (some 67) _) _)
                  try (unfold Act.put; dsimp only)
                  refine wpAnyN_ready (rs := [4]) (by kernel_rfl) (by simp) ?_
                  refine AllReadyN.cons rfl (fun K hK => ?_) ?_
                  · go_simp
                    refine hK.out _ _ ?_ (fun hHeld => ?_)
                    · (try dsimp only)
                      first
                        | (refine ⟨?_, ?_, ?_, ?_, ?_, ?_, ?_⟩ <;> with_reducible assumption)
                        | (refine ⟨cell_keep ?_ x0, cell_keep ?_ x1, cell_keep ?_ x2, cell_keep ?_ x3, cell_keep ?_ x4, cell_keep ?_ x5, cell_keep ?_ x6⟩ <;> first | exact HB7.out | (refine HB7.out.trans (Below.mono (show Below w7.heap.size w7 _ from ?_) HB7.out.size); go_grown; done) | (go_grown; done))
                    clear hK K
                    (try change wpAnyN _ _ _ _ _ _ _ _ (Act.put _ (some 69) _) _)
                    try (unfold Act.put; dsimp only)
                    refine wpAnyN_ready (rs := [5]) (by kernel_rfl) (by simp) ?_
                    refine AllReadyN.last rfl rfl (fun K hK => ?_) ?_
                    · first
                        | (refine step_append_evs rfl _ _ rfl rfl wx.heap.size (.slice A2 l.length c2) l.length ([] ++ l) (by rfl) HO7.out (some ⟨wx.heap.size + 1, 0, none⟩) 1 1 [abt ((q : Int) + 1) cc] (by rfl) rfl (rde_of_block (cs := #[.int .i64 7, .int .i64 0, .int .i64 ((q : Int) + 1), .int .i64 0, .int .i64 0, .int .i64 0, .int .i64 cc]) (T := 43) (fr := (0, 0)) (grown_keep HG7.out (by first | omega | (simp; done)) (by (repeat (first | rw [heap_drew] | rw [heap_push])); simp)) rfl) HB7.out.size (by have := HLN.out; omega) _ rfl ?_
                           intro A3 c3 w9 hown9 hgrow9
                           have HO9 := Lib.hid hown9
                           have HB9 := Lib.hid (show Below wx.heap.size wx w9 from HB7.out.grown hgrow9 HB7.out.size (fun k hk => (HO7.out.lt k hk).1))
                           clear hown9 hgrow9)
                        | (refine step_append_evs rfl _ _ rfl rfl wx.heap.size (.slice A2 l.length c2) l.length ([] ++ l) (by rfl) HO7.out (some ⟨wx.heap.size, 0, none⟩) 1 1 [abt ((q : Int) + 1) cc] (by rfl) rfl (rde_of_block (cs := #[.int .i64 7, .int .i64 0, .int .i64 ((q : Int) + 1), .int .i64 0, .int .i64 0, .int .i64 0, .int .i64 cc]) (T := 43) (fr := (0, 0)) (grown_keep HG7.out (by first | omega | (simp; done)) (by (repeat (first | rw [heap_drew] | rw [heap_push])); simp)) rfl) HB7.out.size (by have := HLN.out; omega) _ rfl ?_
                           intro A3 c3 w9 hown9 hgrow9
                           have HO9 := Lib.hid hown9
                           have HB9 := Lib.hid (show Below wx.heap.size wx w9 from HB7.out.grown hgrow9 HB7.out.size (fun k hk => (HO7.out.lt k hk).1))
                           clear hown9 hgrow9)
                        | (refine step_append_evs rfl _ _ rfl rfl wx.heap.size (.slice A2 l.length c2) l.length ([] ++ l) (by rfl) (own_below HO7.out (by go_grown)) (some ⟨w7.heap.size, 0, none⟩) 1 1 [abt ((q : Int) + 1) cc] (by rfl) rfl (rde_of_block (cs := #[.int .i64 7, .int .i64 0, .int .i64 ((q : Int) + 1), .int .i64 0, .int .i64 0, .int .i64 0, .int .i64 cc]) (T := 43) (fr := (0, 0)) (by (repeat (first | rw [heap_drew] | rw [heap_push])); simp; done) rfl) (by have := HB7.out.size; first | (simp; done) | (simp; omega) | omega) (by have := HLN.out; omega) _ rfl ?_
                           intro A3 c3 w9 hown9 hgrow9
                           have HO9 := Lib.hid hown9
                           have HB9 := Lib.hid (show Below wx.heap.size wx w9 from (HB7.out.trans (show Below wx.heap.size w7 _ from Below.mono (show Below w7.heap.size w7 _ by go_grown) HB7.out.size)).grown hgrow9 (by have := HB7.out.size; first | (simp; done) | (simp; omega) | omega) (fun k hk => (HO7.out.lt k hk).1))
                           clear hown9 hgrow9)
                      refine hK.out _ _ ?_
                      clear hK K
                      (try change wpAnyN _ _ _ _ _ _ _ _ (Act.put _ (some 70) _) _)
                      try (unfold Act.put; dsimp only)
                      refine wpAnyN_ready (rs := [6]) (by kernel_rfl) (by simp) ?_
                      refine AllReadyN.last rfl rfl (fun K hK => ?_) ?_
                      · go_simp
                        go_at_call 8
                        refine (check_good A3 (l.length + 1) c3 ([] ++ l ++ [abt ((q : Int) + 1) cc]) w9 (rde_own HO9.out).1 (rde_own HO9.out).2 (by have := HLN.out; omega) HPL.out).mono ?_
                        rintro e w10 ⟨rfl, hb10⟩
                        have HB10 := Lib.hid (HB9.out.trans (hb10.mono HB9.out.size))
                        clear hb10
                        dsimp only
                        refine hK.out _ _ ?_
                        clear hK K
                        (try change wpAnyN _ _ _ _ _ _ _ _ (Act.put _ (some 71) _) _)
                        try (unfold Act.put; dsimp only)
                        refine wpAnyN_ready (rs := [7]) (by kernel_rfl) (by simp) ?_
                        refine AllReadyN.last rfl rfl (fun K hK => ?_) ?_
                        · go_simp
                          refine hK.out _ _ ?_
                          clear hK K
                          (try change wpAnyN _ _ _ _ _ _ _ _ (Act.put _ (some 72) _) _)
                          try (unfold Act.put; dsimp only)
                          refine wpAnyN_done (by kernel_rfl) ?_ _
                          skip
                          have y0 := cell_keep HB10.out x0
                          have y1 := cell_keep HB10.out x1
                          have y2 := cell_keep HB10.out x2
                          have y3 := cell_keep HB10.out x3
                          have y4 := cell_keep HB10.out x4
                          have y5 := cell_keep HB10.out x5
                          have y6 := cell_keep HB10.out x6
                          have HBW10 := Lib.hid (HBW.out.trans (HB10.out.mono HBW.out.size))
                          have HB310 := Lib.hid (HBR.out.trans (HBW10.out.mono HBR.out.size))
                          have hle10 := HBW10.out.size
                          clear x0 x1 x2 x3 x4 x5 x6
                          go_wp2_with (at_builtin; refine wpList_append_evs rfl _ _ rfl rfl w3.heap.size (.slice A l.length c) l.length l rfl (own_below HOWN.out (HBW10.out.trans (Below.mono (show Below w10.heap.size w10 _ by go_grown) hle10))) (some ⟨w10.heap.size, 0, none⟩) 1 1 [abt ((q : Int) + 1) cc] rfl rfl (rde_of_block (cs := #[.int .i64 7, .int .i64 0, .int .i64 ((q : Int) + 1), .int .i64 0, .int .i64 0, .int .i64 0, .int .i64 cc]) (T := 43) (fr := (0, 0)) (by rw [heap_push, if_pos rfl]) rfl) (by have := HB310.out.size; first | (simp; done) | (simp; omega) | omega) (by have := HLN.out; omega) ?_; intro v11 w11 hown11 hgrow11; obtain ⟨_, A11, c11, rfl, _, _⟩ := rde_of_own hown11; have HO11 := Lib.hid hown11; have HB11 := Lib.hid (show Below w3.heap.size w3 w11 from (HB310.out.trans (Below.mono (show Below w10.heap.size w10 _ by go_grown) HB310.out.size)).grown hgrow11 (by have := HB310.out.size; first | (simp; done) | (simp; omega) | omega) (fun k hk => (HOWN.out.lt k hk).1)); clear hown11 hgrow11)
                          go_roundw
                          case rel => exact ⟨q, l ++ [abt ((q : Int) + 1) cc], A11, c11, by first | rfl | go_num, by simp, by simpa using HO11.out, (HEN.out.more ⟨hc1, hc5⟩ H3.out).2, HB11.out⟩
                          case measure => first | (simp [intOf]; done) | (simp [intOf]; omega)
                        exact AllReadyN.nil
                      exact AllReadyN.nil
                    exact AllReadyN.nil
                  exact AllReadyN.nil
                refine AllReadyN.cons rfl (fun K hK => ?_) ?_
                · go_simp
                  refine hK.out _ _ ?_ (fun hHeld => ?_)
                  · (try dsimp only)
                    first
                      | (refine ⟨?_, ?_, ?_, ?_, ?_, ?_, ?_⟩ <;> with_reducible assumption)
                      | (refine ⟨cell_keep ?_ x0, cell_keep ?_ x1, cell_keep ?_ x2, cell_keep ?_ x3, cell_keep ?_ x4, cell_keep ?_ x5, cell_keep ?_ x6⟩ <;> first | exact HB7.out | (refine HB7.out.trans (Below.mono (show Below w7.heap.size w7 _ from ?_) HB7.out.size); go_grown; done) | (go_grown; done))
                  clear hK K
                  (try change wpAnyN _ _ _ _ _ _ _ _ (Act.put _ (some 69) _) _)
                  try (unfold Act.put; dsimp only)
                  refine wpAnyN_ready (rs := [2]) (by kernel_rfl) (by simp) ?_
                  refine AllReadyN.cons rfl (fun K hK => ?_) ?_
                  · first
                      | (refine step_append_evs rfl _ _ rfl rfl wx.heap.size (.slice (some ⟨wx.heap.size, 0, none⟩) 0 0) 0 [] (by rfl) (own_at_empty (by (repeat (first | rw [heap_drew] | rw [heap_push])); simp; done) (Nat.le_refl _)) A l.length c l (by rfl) rfl (HRL.out.below (show Below wx.heap.size wx _ by go_grown) (Nat.le_refl _)) (by first | (simp; done) | (simp; omega)) (by have := HLN.out; omega) l.length (Nat.zero_add _) ?_
                         intro A2 c2 w7 hown7 hgrow7
                         have HO7 := Lib.hid hown7
                         have HB7 := Lib.hid (show Below wx.heap.size wx w7 from append_below hgrow7 (show Below wx.heap.size wx _ by go_grown) (Below.refl _ _) (Nat.le_refl _) (fun k hk => by simp [Value.ownBlock] at hk; omega))
                         have HG7 := Lib.hid hgrow7
                         clear hown7 hgrow7)
                      | (refine step_append_evs rfl _ _ rfl rfl wx.heap.size (.slice (some ⟨wx.heap.size + 1, 0, none⟩) 0 0) 0 [] (by rfl) (own_at_empty (by (repeat (first | rw [heap_drew] | rw [heap_push])); simp; done) (Nat.le_succ _)) A l.length c l (by rfl) rfl (HRL.out.below (show Below wx.heap.size wx _ by go_grown) (Nat.le_refl _)) (by first | (simp; done) | (simp; omega)) (by have := HLN.out; omega) l.length (Nat.zero_add _) ?_
                         intro A2 c2 w7 hown7 hgrow7
                         have HO7 := Lib.hid hown7
                         have HB7 := Lib.hid (show Below wx.heap.size wx w7 from append_below hgrow7 (show Below wx.heap.size wx _ by go_grown) (Below.refl _ _) (Nat.le_refl _) (fun k hk => by simp [Value.ownBlock] at hk; omega))
                         have HG7 := Lib.hid hgrow7
                         clear hown7 hgrow7)
                    refine hK.out _ _ ?_ (fun hHeld => ?_)
                    · (try dsimp only)
                      first
                        | (refine ⟨?_, ?_, ?_, ?_, ?_, ?_, ?_⟩ <;> with_reducible assumption)
                        | (refine ⟨cell_keep ?_ x0, cell_keep ?_ x1, cell_keep ?_ x2, cell_keep ?_ x3, cell_keep ?_ x4, cell_keep ?_ x5, cell_keep ?_ x6⟩ <;> first | exact HB7.out | (refine HB7.out.trans (Below.mono (show Below w7.heap.size w7 _ from ?_) HB7.out.size); go_grown; done) | (go_grown; done))
                    clear hK K
                    (try change wpAnyN _ _ _ _ _ _ _ _ (Act.put _ (some 67) _) _)
                    try (unfold Act.put; dsimp only)
                    refine wpAnyN_ready (rs := [5]) (by kernel_rfl) (by simp) ?_
                    refine AllReadyN.last rfl rfl (fun K hK => ?_) ?_
                    · first
                        | (refine step_append_evs rfl _ _ rfl rfl wx.heap.size (.slice A2 l.length c2) l.length ([] ++ l) (by rfl) HO7.out (some ⟨wx.heap.size + 1, 0, none⟩) 1 1 [abt ((q : Int) + 1) cc] (by rfl) rfl (rde_of_block (cs := #[.int .i64 7, .int .i64 0, .int .i64 ((q : Int) + 1), .int .i64 0, .int .i64 0, .int .i64 0, .int .i64 cc]) (T := 43) (fr := (0, 0)) (grown_keep HG7.out (by first | omega | (simp; done)) (by (repeat (first | rw [heap_drew] | rw [heap_push])); simp)) rfl) HB7.out.size (by have := HLN.out; omega) _ rfl ?_
                           intro A3 c3 w9 hown9 hgrow9
                           have HO9 := Lib.hid hown9
                           have HB9 := Lib.hid (show Below wx.heap.size wx w9 from HB7.out.grown hgrow9 HB7.out.size (fun k hk => (HO7.out.lt k hk).1))
                           clear hown9 hgrow9)
                        | (refine step_append_evs rfl _ _ rfl rfl wx.heap.size (.slice A2 l.length c2) l.length ([] ++ l) (by rfl) HO7.out (some ⟨wx.heap.size, 0, none⟩) 1 1 [abt ((q : Int) + 1) cc] (by rfl) rfl (rde_of_block (cs := #[.int .i64 7, .int .i64 0, .int .i64 ((q : Int) + 1), .int .i64 0, .int .i64 0, .int .i64 0, .int .i64 cc]) (T := 43) (fr := (0, 0)) (grown_keep HG7.out (by first | omega | (simp; done)) (by (repeat (first | rw [heap_drew] | rw [heap_push])); simp)) rfl) HB7.out.size (by have := HLN.out; omega) _ rfl ?_
                           intro A3 c3 w9 hown9 hgrow9
                           have HO9 := Lib.hid hown9
                           have HB9 := Lib.hid (show Below wx.heap.size wx w9 from HB7.out.grown hgrow9 HB7.out.size (fun k hk => (HO7.out.lt k hk).1))
                           clear hown9 hgrow9)
                        | (refine step_append_evs rfl _ _ rfl rfl wx.heap.size (.slice A2 l.length c2) l.length ([] ++ l) (by rfl) (own_below HO7.out (by go_grown)) (some ⟨w7.heap.size, 0, none⟩) 1 1 [abt ((q : Int) + 1) cc] (by rfl) rfl (rde_of_block (cs := #[.int .i64 7, .int .i64 0, .int .i64 ((q : Int) + 1), .int .i64 0, .int .i64 0, .int .i64 0, .int .i64 cc]) (T := 43) (fr := (0, 0)) (by (repeat (first | rw [heap_drew] | rw [heap_push])); simp; done) rfl) (by have := HB7.out.size; first | (simp; done) | (simp; omega) | omega) (by have := HLN.out; omega) _ rfl ?_
                           intro A3 c3 w9 hown9 hgrow9
                           have HO9 := Lib.hid hown9
                           have HB9 := Lib.hid (show Below wx.heap.size wx w9 from (HB7.out.trans (show Below wx.heap.size w7 _ from Below.mono (show Below w7.heap.size w7 _ by go_grown) HB7.out.size)).grown hgrow9 (by have := HB7.out.size; first | (simp; done) | (simp; omega) | omega) (fun k hk => (HO7.out.lt k hk).1))
                           clear hown9 hgrow9)
                      refine hK.out _ _ ?_
                      clear hK K
                      (try change wpAnyN _ _ _ _ _ _ _ _ (Act.put _ (some 70) _) _)
                      try (unfold Act.put; dsimp only)
                      refine wpAnyN_ready (rs := [6]) (by kernel_rfl) (by simp) ?_
                      refine AllReadyN.last rfl rfl (fun K hK => ?_) ?_
                      · go_simp
                        go_at_call 8
                        refine (check_good A3 (l.length + 1) c3 ([] ++ l ++ [abt ((q : Int) + 1) cc]) w9 (rde_own HO9.out).1 (rde_own HO9.out).2 (by have := HLN.out; omega) HPL.out).mono ?_
                        rintro e w10 ⟨rfl, hb10⟩
                        have HB10 := Lib.hid (HB9.out.trans (hb10.mono HB9.out.size))
                        clear hb10
                        dsimp only
                        refine hK.out _ _ ?_
                        clear hK K
                        (try change wpAnyN _ _ _ _ _ _ _ _ (Act.put _ (some 71) _) _)
                        try (unfold Act.put; dsimp only)
                        refine wpAnyN_ready (rs := [7]) (by kernel_rfl) (by simp) ?_
                        refine AllReadyN.last rfl rfl (fun K hK => ?_) ?_
                        · go_simp
                          refine hK.out _ _ ?_
                          clear hK K
                          (try change wpAnyN _ _ _ _ _ _ _ _ (Act.put _ (some 72) _) _)
                          try (unfold Act.put; dsimp only)
                          refine wpAnyN_done (by kernel_rfl) ?_ _
                          skip
                          have y0 := cell_keep HB10.out x0
                          have y1 := cell_keep HB10.out x1
                          have y2 := cell_keep HB10.out x2
                          have y3 := cell_keep HB10.out x3
                          have y4 := cell_keep HB10.out x4
                          have y5 := cell_keep HB10.out x5
                          have y6 := cell_keep HB10.out x6
                          have HBW10 := Lib.hid (HBW.out.trans (HB10.out.mono HBW.out.size))
                          have HB310 := Lib.hid (HBR.out.trans (HBW10.out.mono HBR.out.size))
                          have hle10 := HBW10.out.size
                          clear x0 x1 x2 x3 x4 x5 x6
                          go_wp2_with (at_builtin; refine wpList_append_evs rfl _ _ rfl rfl w3.heap.size (.slice A l.length c) l.length l rfl (own_below HOWN.out (HBW10.out.trans (Below.mono (show Below w10.heap.size w10 _ by go_grown) hle10))) (some ⟨w10.heap.size, 0, none⟩) 1 1 [abt ((q : Int) + 1) cc] rfl rfl (rde_of_block (cs := #[.int .i64 7, .int .i64 0, .int .i64 ((q : Int) + 1), .int .i64 0, .int .i64 0, .int .i64 0, .int .i64 cc]) (T := 43) (fr := (0, 0)) (by rw [heap_push, if_pos rfl]) rfl) (by have := HB310.out.size; first | (simp; done) | (simp; omega) | omega) (by have := HLN.out; omega) ?_; intro v11 w11 hown11 hgrow11; obtain ⟨_, A11, c11, rfl, _, _⟩ := rde_of_own hown11; have HO11 := Lib.hid hown11; have HB11 := Lib.hid (show Below w3.heap.size w3 w11 from (HB310.out.trans (Below.mono (show Below w10.heap.size w10 _ by go_grown) HB310.out.size)).grown hgrow11 (by have := HB310.out.size; first | (simp; done) | (simp; omega) | omega) (fun k hk => (HOWN.out.lt k hk).1)); clear hown11 hgrow11)
                          go_roundw
                          case rel => exact ⟨q, l ++ [abt ((q : Int) + 1) cc], A11, c11, by first | rfl | go_num, by simp, by simpa using HO11.out, (HEN.out.more ⟨hc1, hc5⟩ H3.out).2, HB11.out⟩
                          case measure => first | (simp [intOf]; done) | (simp [intOf]; omega)
                        exact AllReadyN.nil
                      exact AllReadyN.nil
                    exact AllReadyN.nil
                  exact AllReadyN.nil
                exact AllReadyN.nil
              refine AllReadyN.cons rfl (fun K hK => ?_) ?_
              · go_simp
                refine hK.out _ _ ?_ (fun hHeld => ?_)
                · (try dsimp only)
                  first
                    | (refine ⟨?_, ?_, ?_, ?_, ?_, ?_, ?_⟩ <;> with_reducible assumption)
                    | (refine ⟨cell_keep ?_ x0, cell_keep ?_ x1, cell_keep ?_ x2, cell_keep ?_ x3, cell_keep ?_ x4, cell_keep ?_ x5, cell_keep ?_ x6⟩ <;> first | exact HB7.out | (refine HB7.out.trans (Below.mono (show Below w7.heap.size w7 _ from ?_) HB7.out.size); go_grown; done) | (go_grown; done))
                clear hK K
                (try change wpAnyN _ _ _ _ _ _ _ _ (Act.put _ (some 69) _) _)
                try (unfold Act.put; dsimp only)
                refine wpAnyN_ready (rs := [0]) (by kernel_rfl) (by simp) ?_
                refine AllReadyN.cons rfl (fun K hK => ?_) ?_
                · go_simp
                  refine hK.out _ _ ?_ (fun hHeld => ?_)
                  · (try dsimp only)
                    first
                      | (refine ⟨?_, ?_, ?_, ?_, ?_, ?_, ?_⟩ <;> with_reducible assumption)
                      | (refine ⟨cell_keep ?_ x0, cell_keep ?_ x1, cell_keep ?_ x2, cell_keep ?_ x3, cell_keep ?_ x4, cell_keep ?_ x5, cell_keep ?_ x6⟩ <;> first | exact HB7.out | (refine HB7.out.trans (Below.mono (show Below w7.heap.size w7 _ from ?_) HB7.out.size); go_grown; done) | (go_grown; done))
                  clear hK K
                  (try change wpAnyN _ _ _ _ _ _ _ _ (Act.put _ (some 65) _) _)
                  try (unfold Act.put; dsimp only)
                  refine wpAnyN_ready (rs := [2]) (by kernel_rfl) (by simp) ?_
                  refine AllReadyN.cons rfl (fun K hK => ?_) ?_
                  · first
                      | (refine step_append_evs rfl _ _ rfl rfl wx.heap.size (.slice (some ⟨wx.heap.size, 0, none⟩) 0 0) 0 [] (by rfl) (own_at_empty (by (repeat (first | rw [heap_drew] | rw [heap_push])); simp; done) (Nat.le_refl _)) A l.length c l (by rfl) rfl (HRL.out.below (show Below wx.heap.size wx _ by go_grown) (Nat.le_refl _)) (by first | (simp; done) | (simp; omega)) (by have := HLN.out; omega) l.length (Nat.zero_add _) ?_
                         intro A2 c2 w7 hown7 hgrow7
                         have HO7 := Lib.hid hown7
                         have HB7 := Lib.hid (show Below wx.heap.size wx w7 from append_below hgrow7 (show Below wx.heap.size wx _ by go_grown) (Below.refl _ _) (Nat.le_refl _) (fun k hk => by simp [Value.ownBlock] at hk; omega))
                         have HG7 := Lib.hid hgrow7
                         clear hown7 hgrow7)
                      | (refine step_append_evs rfl _ _ rfl rfl wx.heap.size (.slice (some ⟨wx.heap.size + 1, 0, none⟩) 0 0) 0 [] (by rfl) (own_at_empty (by (repeat (first | rw [heap_drew] | rw [heap_push])); simp; done) (Nat.le_succ _)) A l.length c l (by rfl) rfl (HRL.out.below (show Below wx.heap.size wx _ by go_grown) (Nat.le_refl _)) (by first | (simp; done) | (simp; omega)) (by have := HLN.out; omega) l.length (Nat.zero_add _) ?_
                         intro A2 c2 w7 hown7 hgrow7
                         have HO7 := Lib.hid hown7
                         have HB7 := Lib.hid (show Below wx.heap.size wx w7 from append_below hgrow7 (show Below wx.heap.size wx _ by go_grown) (Below.refl _ _) (Nat.le_refl _) (fun k hk => by simp [Value.ownBlock] at hk; omega))
                         have HG7 := Lib.hid hgrow7
                         clear hown7 hgrow7)
                    refine hK.out _ _ ?_ (fun hHeld => ?_)
                    · (try dsimp only)
                      first
                        | (refine ⟨?_, ?_, ?_, ?_, ?_, ?_, ?_⟩ <;> with_reducible assumption)
                        | (refine ⟨cell_keep ?_ x0, cell_keep ?_ x1, cell_keep ?_ x2, cell_keep ?_ x3, cell_keep ?_ x4, cell_keep ?_ x5, cell_keep ?_ x6⟩ <;> first | exact HB7.out | (refine HB7.out.trans (Below.mono (show Below w7.heap.size w7 _ from ?_) HB7.out.size); go_grown; done) | (go_grown; done))
                    clear hK K
                    (try change wpAnyN _ _ _ _ _ _ _ _ (Act.put _ (some 67) _) _)
                    try (unfold Act.put; dsimp only)
                    refine wpAnyN_ready (rs := [5]) (by kernel_rfl) (by simp) ?_
                    refine AllReadyN.last rfl rfl (fun K hK => ?_) ?_
                    · first
                        | (refine step_append_evs rfl _ _ rfl rfl wx.heap.size (.slice A2 l.length c2) l.length ([] ++ l) (by rfl) HO7.out (some ⟨wx.heap.size + 1, 0, none⟩) 1 1 [abt ((q : Int) + 1) cc] (by rfl) rfl (rde_of_block (cs := #[.int .i64 7, .int .i64 0, .int .i64 ((q : Int) + 1), .int .i64 0, .int .i64 0, .int .i64 0, .int .i64 cc]) (T := 43) (fr := (0, 0)) (grown_keep HG7.out (by first | omega | (simp; done)) (by (repeat (first | rw [heap_drew] | rw [heap_push])); simp)) rfl) HB7.out.size (by have := HLN.out; omega) _ rfl ?_
                           intro A3 c3 w9 hown9 hgrow9
                           have HO9 := Lib.hid hown9
                           have HB9 := Lib.hid (show Below wx.heap.size wx w9 from HB7.out.grown hgrow9 HB7.out.size (fun k hk => (HO7.out.lt k hk).1))
                           clear hown9 hgrow9)
                        | (refine step_append_evs rfl _ _ rfl rfl wx.heap.size (.slice A2 l.length c2) l.length ([] ++ l) (by rfl) HO7.out (some ⟨wx.heap.size, 0, none⟩) 1 1 [abt ((q : Int) + 1) cc] (by rfl) rfl (rde_of_block (cs := #[.int .i64 7, .int .i64 0, .int .i64 ((q : Int) + 1), .int .i64 0, .int .i64 0, .int .i64 0, .int .i64 cc]) (T := 43) (fr := (0, 0)) (grown_keep HG7.out (by first | omega | (simp; done)) (by (repeat (first | rw [heap_drew] | rw [heap_push])); simp)) rfl) HB7.out.size (by have := HLN.out; omega) _ rfl ?_
                           intro A3 c3 w9 hown9 hgrow9
                           have HO9 := Lib.hid hown9
                           have HB9 := Lib.hid (show Below wx.heap.size wx w9 from HB7.out.grown hgrow9 HB7.out.size (fun k hk => (HO7.out.lt k hk).1))
                           clear hown9 hgrow9)
                        | (refine step_append_evs rfl _ _ rfl rfl wx.heap.size (.slice A2 l.length c2) l.length ([] ++ l) (by rfl) (own_below HO7.out (by go_grown)) (some ⟨w7.heap.size, 0, none⟩) 1 1 [abt ((q : Int) + 1) cc] (by rfl) rfl (rde_of_block (cs := #[.int .i64 7, .int .i64 0, .int .i64 ((q : Int) + 1), .int .i64 0, .int .i64 0, .int .i64 0, .int .i64 cc]) (T := 43) (fr := (0, 0)) (by (repeat (first | rw [heap_drew] | rw [heap_push])); simp; done) rfl) (by have := HB7.out.size; first | (simp; done) | (simp; omega) | omega) (by have := HLN.out; omega) _ rfl ?_
                           intro A3 c3 w9 hown9 hgrow9
                           have HO9 := Lib.hid hown9
                           have HB9 := Lib.hid (show Below wx.heap.size wx w9 from (HB7.out.trans (show Below wx.heap.size w7 _ from Below.mono (show Below w7.heap.size w7 _ by go_grown) HB7.out.size)).grown hgrow9 (by have := HB7.out.size; first | (simp; done) | (simp; omega) | omega) (fun k hk => (HO7.out.lt k hk).1))
                           clear hown9 hgrow9)
                      refine hK.out _ _ ?_
                      clear hK K
                      (try change wpAnyN _ _ _ _ _ _ _ _ (Act.put _ (some 70) _) _)
                      try (unfold Act.put; dsimp only)
                      refine wpAnyN_ready (rs := [6]) (by kernel_rfl) (by simp) ?_
                      refine AllReadyN.last rfl rfl (fun K hK => ?_) ?_
                      · go_simp
                        go_at_call 8
                        refine (check_good A3 (l.length + 1) c3 ([] ++ l ++ [abt ((q : Int) + 1) cc]) w9 (rde_own HO9.out).1 (rde_own HO9.out).2 (by have := HLN.out; omega) HPL.out).mono ?_
                        rintro e w10 ⟨rfl, hb10⟩
                        have HB10 := Lib.hid (HB9.out.trans (hb10.mono HB9.out.size))
                        clear hb10
                        dsimp only
                        refine hK.out _ _ ?_
                        clear hK K
                        (try change wpAnyN _ _ _ _ _ _ _ _ (Act.put _ (some 71) _) _)
                        try (unfold Act.put; dsimp only)
                        refine wpAnyN_ready (rs := [7]) (by kernel_rfl) (by simp) ?_
                        refine AllReadyN.last rfl rfl (fun K hK => ?_) ?_
                        · go_simp
                          refine hK.out _ _ ?_
                          clear hK K
                          (try change wpAnyN _ _ _ _ _ _ _ _ (Act.put _ (some 72) _) _)
                          try (unfold Act.put; dsimp only)
                          refine wpAnyN_done (by kernel_rfl) ?_ _
                          skip
                          have y0 := cell_keep HB10.out x0
                          have y1 := cell_keep HB10.out x1
                          have y2 := cell_keep HB10.out x2
                          have y3 := cell_keep HB10.out x3
                          have y4 := cell_keep HB10.out x4
                          have y5 := cell_keep HB10.out x5
                          have y6 := cell_keep HB10.out x6
                          have HBW10 := Lib.hid (HBW.out.trans (HB10.out.mono HBW.out.size))
                          have HB310 := Lib.hid (HBR.out.trans (HBW10.out.mono HBR.out.size))
                          have hle10 := HBW10.out.size
                          clear x0 x1 x2 x3 x4 x5 x6
                          go_wp2_with (at_builtin; refine wpList_append_evs rfl _ _ rfl rfl w3.heap.size (.slice A l.length c) l.length l rfl (own_below HOWN.out (HBW10.out.trans (Below.mono (show Below w10.heap.size w10 _ by go_grown) hle10))) (some ⟨w10.heap.size, 0, none⟩) 1 1 [abt ((q : Int) + 1) cc] rfl rfl (rde_of_block (cs := #[.int .i64 7, .int .i64 0, .int .i64 ((q : Int) + 1), .int .i64 0, .int .i64 0, .int .i64 0, .int .i64 cc]) (T := 43) (fr := (0, 0)) (by rw [heap_push, if_pos rfl]) rfl) (by have := HB310.out.size; first | (simp; done) | (simp; omega) | omega) (by have := HLN.out; omega) ?_; intro v11 w11 hown11 hgrow11; obtain ⟨_, A11, c11, rfl, _, _⟩ := rde_of_own hown11; have HO11 := Lib.hid hown11; have HB11 := Lib.hid (show Below w3.heap.size w3 w11 from (HB310.out.trans (Below.mono (show Below w10.heap.size w10 _ by go_grown) HB310.out.size)).grown hgrow11 (by have := HB310.out.size; first | (simp; done) | (simp; omega) | omega) (fun k hk => (HOWN.out.lt k hk).1)); clear hown11 hgrow11)
                          go_roundw
                          case rel => exact ⟨q, l ++ [abt ((q : Int) + 1) cc], A11, c11, by first | rfl | go_num, by simp, by simpa using HO11.out, (HEN.out.more ⟨hc1, hc5⟩ H3.out).2, HB11.out⟩
                          case measure => first | (simp [intOf]; done) | (simp [intOf]; omega)
                        exact AllReadyN.nil
                      exact AllReadyN.nil
                    exact AllReadyN.nil
                  exact AllReadyN.nil
                exact AllReadyN.nil
              exact AllReadyN.nil
          | zero =>
            have hq0 : ¬ 1 ≤ ((0 : Nat) : Int) := by decide
            have HSG := Lib.hid (serial_good A l.length c l wr HRLr.out rfl (by have := HLN.out; omega) (play_ok HEN.out.ok))
            rw [HEN.out.ser, HNS.out] at HSG
            go_wp2_with fail
            refine HSG.out.mono ?_
            rintro e w13 ⟨⟨v13, rfl, hown13⟩, hb13⟩
            obtain ⟨_, AT, ct, rfl, _, _, hrt, _⟩ := rdn_of_own hown13
            have HB13 := Lib.hid (HBR.out.trans (hb13.mono HBR.out.size))
            have HI := Lib.hid (ints_yes AS AT ns cs ct (after start rl 0).serial w13 (HRS.out.below HB13.out) hrt HNS.out (by omega))
            have HRL13 := Lib.hid (HRLr.out.below hb13 (Nat.le_refl _))
            clear hown13 hb13 hrt HSG
            go_wp2_with fail
            refine HI.out.mono ?_
            rintro e wx ⟨rfl, hbx⟩
            have HBx := Lib.hid (HB13.out.trans (hbx.mono HB13.out.size))
            have HRL := Lib.hid (HRL13.out.below hbx (Nat.le_refl _))
            have hkx := (HBx.out.block w.heap.size (lt_of_block HX3.out)).trans HX3.out
            have HBF := Lib.hid (HB3.out.trans (HBx.out.mono HB3.out.size))
            have lxr : w.heap.size < wx.heap.size := lt_of_block hkx
            have nxr : ¬ w.heap.size = wx.heap.size := by omega
            have x0 := heap_cell hkx (j := 0) rfl
            have x1 := heap_cell hkx (j := 1) rfl
            have x2 := heap_cell hkx (j := 2) rfl
            have x3 := heap_cell hkx (j := 3) rfl
            have x4 := heap_cell hkx (j := 4) rfl
            have x5 := heap_cell hkx (j := 5) rfl
            have x6 := heap_cell hkx (j := 6) rfl
            clear hbx hkx HI hq0
            go_wp2_with fail
            rcases ok_or (l ++ [(⟨ek, ec, ex, et, er, em, eq⟩ : Ev)]) with ho | ⟨pp, kk, ho⟩
            · have HPL := Lib.hid ho
              have hek := HEN.out.end_ ho
              clear ho
              simp only at hek
              rcases hek with hek | hek
              · subst hek
                refine wp_region_N (S := (fun w' => w'.cell? ⟨w.heap.size, 0, none⟩ = some (.int .i64 1) ∧ w'.cell? ⟨w.heap.size, 1, none⟩ = some (.int .i64 ec) ∧ w'.cell? ⟨w.heap.size, 2, none⟩ = some (.int .i64 ex) ∧ w'.cell? ⟨w.heap.size, 3, none⟩ = some (.int .i64 et) ∧ w'.cell? ⟨w.heap.size, 4, none⟩ = some (.int .i64 er) ∧ w'.cell? ⟨w.heap.size, 5, none⟩ = some (.int .i64 em) ∧ w'.cell? ⟨w.heap.size, 6, none⟩ = some (.int .i64 eq))) (fun i => !(i == 5 || i == 6 || i == 7)) (by kernel_rfl) ?_ (fun hHeld => ?_)
                · (try dsimp only)
                  first
                    | (refine ⟨?_, ?_, ?_, ?_, ?_, ?_, ?_⟩ <;> with_reducible assumption)
                    | (refine ⟨cell_keep ?_ x0, cell_keep ?_ x1, cell_keep ?_ x2, cell_keep ?_ x3, cell_keep ?_ x4, cell_keep ?_ x5, cell_keep ?_ x6⟩ <;> first | exact HB7.out | (refine HB7.out.trans (Below.mono (show Below w7.heap.size w7 _ from ?_) HB7.out.size); go_grown; done) | (go_grown; done))
                refine wpAnyN_take [2, 5, 6, 7] (i := 1) (v := ?_) rfl (by kernel_rfl) (by kernel_rfl) (by kernel_rfl) (by kernel_rfl) (by kernel_rfl) (fun _ _ _ h => h) (Or.inl ⟨by first | kernel_rfl | rfl, ?_⟩) (by assumption) ?_
                rotate_left
                focus
                  intro w hSw
                  (try dsimp only at hSw)
                  go_simp
                  try with_reducible rfl
                (try change wpAnyN _ _ _ _ _ _ _ _ (Act.put _ (some 91) _) _)
                try (unfold Act.put; dsimp only)
                refine wpAnyN_take [4, 5, 6, 7] (i := 3) (v := ?_) rfl (by kernel_rfl) (by kernel_rfl) (by kernel_rfl) (by kernel_rfl) (by kernel_rfl) (fun _ _ _ h => h) (Or.inl ⟨by first | kernel_rfl | rfl, ?_⟩) (by assumption) ?_
                rotate_left
                focus
                  intro w hSw
                  (try dsimp only at hSw)
                  go_simp
                  try with_reducible rfl
                (try change wpAnyN _ _ _ _ _ _ _ _ (Act.put _ (some 93) _) _)
                try (unfold Act.put; dsimp only)
                refine wpAnyN_ready (rs := [0, 4]) (by kernel_rfl) (by simp) ?_
                refine AllReadyN.cons rfl (fun K hK => ?_) ?_
                · go_simp
                  refine hK.out _ _ ?_ (fun hHeld => ?_)
                  · (try dsimp only)
                    first
                      | (refine ⟨?_, ?_, ?_, ?_, ?_, ?_, ?_⟩ <;> with_reducible assumption)
                      | (refine ⟨cell_keep ?_ x0, cell_keep ?_ x1, cell_keep ?_ x2, cell_keep ?_ x3, cell_keep ?_ x4, cell_keep ?_ x5, cell_keep ?_ x6⟩ <;> first | exact HB7.out | (refine HB7.out.trans (Below.mono (show Below w7.heap.size w7 _ from ?_) HB7.out.size); go_grown; done) | (go_grown; done))
                  clear hK K
                  (try change wpAnyN _ _ _ _ _ _ _ _ (Act.put _ (some 90) _) _)
                  try (unfold Act.put; dsimp only)
                  refine wpAnyN_ready (rs := [2, 4]) (by kernel_rfl) (by simp) ?_
                  refine AllReadyN.cons rfl (fun K hK => ?_) ?_
                  · first
                      | (refine step_append_evs rfl _ _ rfl rfl wx.heap.size (.slice (some ⟨wx.heap.size, 0, none⟩) 0 0) 0 [] (by rfl) (own_at_empty (by (repeat (first | rw [heap_drew] | rw [heap_push])); simp; done) (Nat.le_refl _)) A l.length c l (by rfl) rfl (HRL.out.below (show Below wx.heap.size wx _ by go_grown) (Nat.le_refl _)) (by first | (simp; done) | (simp; omega)) (by have := HLN.out; omega) l.length (Nat.zero_add _) ?_
                         intro A2 c2 w7 hown7 hgrow7
                         have HO7 := Lib.hid hown7
                         have HB7 := Lib.hid (show Below wx.heap.size wx w7 from append_below hgrow7 (show Below wx.heap.size wx _ by go_grown) (Below.refl _ _) (Nat.le_refl _) (fun k hk => by simp [Value.ownBlock] at hk; omega))
                         have HG7 := Lib.hid hgrow7
                         clear hown7 hgrow7)
                      | (refine step_append_evs rfl _ _ rfl rfl wx.heap.size (.slice (some ⟨wx.heap.size + 1, 0, none⟩) 0 0) 0 [] (by rfl) (own_at_empty (by (repeat (first | rw [heap_drew] | rw [heap_push])); simp; done) (Nat.le_succ _)) A l.length c l (by rfl) rfl (HRL.out.below (show Below wx.heap.size wx _ by go_grown) (Nat.le_refl _)) (by first | (simp; done) | (simp; omega)) (by have := HLN.out; omega) l.length (Nat.zero_add _) ?_
                         intro A2 c2 w7 hown7 hgrow7
                         have HO7 := Lib.hid hown7
                         have HB7 := Lib.hid (show Below wx.heap.size wx w7 from append_below hgrow7 (show Below wx.heap.size wx _ by go_grown) (Below.refl _ _) (Nat.le_refl _) (fun k hk => by simp [Value.ownBlock] at hk; omega))
                         have HG7 := Lib.hid hgrow7
                         clear hown7 hgrow7)
                    refine hK.out _ _ ?_ (fun hHeld => ?_)
                    · (try dsimp only)
                      first
                        | (refine ⟨?_, ?_, ?_, ?_, ?_, ?_, ?_⟩ <;> with_reducible assumption)
                        | (refine ⟨cell_keep ?_ x0, cell_keep ?_ x1, cell_keep ?_ x2, cell_keep ?_ x3, cell_keep ?_ x4, cell_keep ?_ x5, cell_keep ?_ x6⟩ <;> first | exact HB7.out | (refine HB7.out.trans (Below.mono (show Below w7.heap.size w7 _ from ?_) HB7.out.size); go_grown; done) | (go_grown; done))
                    clear hK K
                    (try change wpAnyN _ _ _ _ _ _ _ _ (Act.put _ (some 92) _) _)
                    try (unfold Act.put; dsimp only)
                    refine wpAnyN_ready (rs := [4]) (by kernel_rfl) (by simp) ?_
                    refine AllReadyN.cons rfl (fun K hK => ?_) ?_
                    · go_simp
                      refine hK.out _ _ ?_ (fun hHeld => ?_)
                      · (try dsimp only)
                        first
                          | (refine ⟨?_, ?_, ?_, ?_, ?_, ?_, ?_⟩ <;> with_reducible assumption)
                          | (refine ⟨cell_keep ?_ x0, cell_keep ?_ x1, cell_keep ?_ x2, cell_keep ?_ x3, cell_keep ?_ x4, cell_keep ?_ x5, cell_keep ?_ x6⟩ <;> first | exact HB7.out | (refine HB7.out.trans (Below.mono (show Below w7.heap.size w7 _ from ?_) HB7.out.size); go_grown; done) | (go_grown; done))
                      clear hK K
                      (try change wpAnyN _ _ _ _ _ _ _ _ (Act.put _ (some 94) _) _)
                      try (unfold Act.put; dsimp only)
                      refine wpAnyN_ready (rs := [5]) (by kernel_rfl) (by simp) ?_
                      refine AllReadyN.last rfl rfl (fun K hK => ?_) ?_
                      · first
                          | (refine step_append_evs rfl _ _ rfl rfl wx.heap.size (.slice A2 l.length c2) l.length ([] ++ l) (by rfl) HO7.out (some ⟨wx.heap.size + 1, 0, none⟩) 1 1 [(⟨1, ec, ex, et, er, em, eq⟩ : Ev)] (by rfl) rfl (rde_of_block (cs := #[.int .i64 1, .int .i64 ec, .int .i64 ex, .int .i64 et, .int .i64 er, .int .i64 em, .int .i64 eq]) (T := 43) (fr := (0, 0)) (grown_keep HG7.out (by first | omega | (simp; done)) (by (repeat (first | rw [heap_drew] | rw [heap_push])); simp)) rfl) HB7.out.size (by have := HLN.out; omega) _ rfl ?_
                             intro A3 c3 w9 hown9 hgrow9
                             have HO9 := Lib.hid hown9
                             have HB9 := Lib.hid (show Below wx.heap.size wx w9 from HB7.out.grown hgrow9 HB7.out.size (fun k hk => (HO7.out.lt k hk).1))
                             clear hown9 hgrow9)
                          | (refine step_append_evs rfl _ _ rfl rfl wx.heap.size (.slice A2 l.length c2) l.length ([] ++ l) (by rfl) HO7.out (some ⟨wx.heap.size, 0, none⟩) 1 1 [(⟨1, ec, ex, et, er, em, eq⟩ : Ev)] (by rfl) rfl (rde_of_block (cs := #[.int .i64 1, .int .i64 ec, .int .i64 ex, .int .i64 et, .int .i64 er, .int .i64 em, .int .i64 eq]) (T := 43) (fr := (0, 0)) (grown_keep HG7.out (by first | omega | (simp; done)) (by (repeat (first | rw [heap_drew] | rw [heap_push])); simp)) rfl) HB7.out.size (by have := HLN.out; omega) _ rfl ?_
                             intro A3 c3 w9 hown9 hgrow9
                             have HO9 := Lib.hid hown9
                             have HB9 := Lib.hid (show Below wx.heap.size wx w9 from HB7.out.grown hgrow9 HB7.out.size (fun k hk => (HO7.out.lt k hk).1))
                             clear hown9 hgrow9)
                          | (refine step_append_evs rfl _ _ rfl rfl wx.heap.size (.slice A2 l.length c2) l.length ([] ++ l) (by rfl) (own_below HO7.out (by go_grown)) (some ⟨w7.heap.size, 0, none⟩) 1 1 [(⟨1, ec, ex, et, er, em, eq⟩ : Ev)] (by rfl) rfl (rde_of_block (cs := #[.int .i64 1, .int .i64 ec, .int .i64 ex, .int .i64 et, .int .i64 er, .int .i64 em, .int .i64 eq]) (T := 43) (fr := (0, 0)) (by (repeat (first | rw [heap_drew] | rw [heap_push])); simp; done) rfl) (by have := HB7.out.size; first | (simp; done) | (simp; omega) | omega) (by have := HLN.out; omega) _ rfl ?_
                             intro A3 c3 w9 hown9 hgrow9
                             have HO9 := Lib.hid hown9
                             have HB9 := Lib.hid (show Below wx.heap.size wx w9 from (HB7.out.trans (show Below wx.heap.size w7 _ from Below.mono (show Below w7.heap.size w7 _ by go_grown) HB7.out.size)).grown hgrow9 (by have := HB7.out.size; first | (simp; done) | (simp; omega) | omega) (fun k hk => (HO7.out.lt k hk).1))
                             clear hown9 hgrow9)
                        refine hK.out _ _ ?_
                        clear hK K
                        (try change wpAnyN _ _ _ _ _ _ _ _ (Act.put _ (some 95) _) _)
                        try (unfold Act.put; dsimp only)
                        refine wpAnyN_ready (rs := [6]) (by kernel_rfl) (by simp) ?_
                        refine AllReadyN.last rfl rfl (fun K hK => ?_) ?_
                        · go_simp
                          go_at_call 8
                          refine (check_good A3 (l.length + 1) c3 ([] ++ l ++ [(⟨1, ec, ex, et, er, em, eq⟩ : Ev)]) w9 (rde_own HO9.out).1 (rde_own HO9.out).2 (by have := HLN.out; omega) HPL.out).mono ?_
                          rintro e w10 ⟨rfl, hb10⟩
                          have HB10 := Lib.hid (HB9.out.trans (hb10.mono HB9.out.size))
                          clear hb10
                          dsimp only
                          refine hK.out _ _ ?_
                          clear hK K
                          (try change wpAnyN _ _ _ _ _ _ _ _ (Act.put _ (some 96) _) _)
                          try (unfold Act.put; dsimp only)
                          refine wpAnyN_ready (rs := [7]) (by kernel_rfl) (by simp) ?_
                          refine AllReadyN.last rfl rfl (fun K hK => ?_) ?_
                          · go_simp
                            refine hK.out _ _ ?_
                            clear hK K
                            (try change wpAnyN _ _ _ _ _ _ _ _ (Act.put _ (some 17) _) _)
                            try (unfold Act.put; dsimp only)
                            refine wpAnyN_done (by kernel_rfl) ?_ _
                            skip
                            have y0 := cell_keep HB10.out x0
                            clear x0 x1 x2 x3 x4 x5 x6
                            go_wp2
                            go_ret
                            exact ⟨rfl, HBF.out.trans (HB10.out.mono HBF.out.size)⟩
                          exact AllReadyN.nil
                        exact AllReadyN.nil
                      exact AllReadyN.nil
                    exact AllReadyN.nil
                  refine AllReadyN.cons rfl (fun K hK => ?_) ?_
                  · go_simp
                    refine hK.out _ _ ?_ (fun hHeld => ?_)
                    · (try dsimp only)
                      first
                        | (refine ⟨?_, ?_, ?_, ?_, ?_, ?_, ?_⟩ <;> with_reducible assumption)
                        | (refine ⟨cell_keep ?_ x0, cell_keep ?_ x1, cell_keep ?_ x2, cell_keep ?_ x3, cell_keep ?_ x4, cell_keep ?_ x5, cell_keep ?_ x6⟩ <;> first | exact HB7.out | (refine HB7.out.trans (Below.mono (show Below w7.heap.size w7 _ from ?_) HB7.out.size); go_grown; done) | (go_grown; done))
                    clear hK K
                    (try change wpAnyN _ _ _ _ _ _ _ _ (Act.put _ (some 94) _) _)
                    try (unfold Act.put; dsimp only)
                    refine wpAnyN_ready (rs := [2]) (by kernel_rfl) (by simp) ?_
                    refine AllReadyN.cons rfl (fun K hK => ?_) ?_
                    · first
                        | (refine step_append_evs rfl _ _ rfl rfl wx.heap.size (.slice (some ⟨wx.heap.size, 0, none⟩) 0 0) 0 [] (by rfl) (own_at_empty (by (repeat (first | rw [heap_drew] | rw [heap_push])); simp; done) (Nat.le_refl _)) A l.length c l (by rfl) rfl (HRL.out.below (show Below wx.heap.size wx _ by go_grown) (Nat.le_refl _)) (by first | (simp; done) | (simp; omega)) (by have := HLN.out; omega) l.length (Nat.zero_add _) ?_
                           intro A2 c2 w7 hown7 hgrow7
                           have HO7 := Lib.hid hown7
                           have HB7 := Lib.hid (show Below wx.heap.size wx w7 from append_below hgrow7 (show Below wx.heap.size wx _ by go_grown) (Below.refl _ _) (Nat.le_refl _) (fun k hk => by simp [Value.ownBlock] at hk; omega))
                           have HG7 := Lib.hid hgrow7
                           clear hown7 hgrow7)
                        | (refine step_append_evs rfl _ _ rfl rfl wx.heap.size (.slice (some ⟨wx.heap.size + 1, 0, none⟩) 0 0) 0 [] (by rfl) (own_at_empty (by (repeat (first | rw [heap_drew] | rw [heap_push])); simp; done) (Nat.le_succ _)) A l.length c l (by rfl) rfl (HRL.out.below (show Below wx.heap.size wx _ by go_grown) (Nat.le_refl _)) (by first | (simp; done) | (simp; omega)) (by have := HLN.out; omega) l.length (Nat.zero_add _) ?_
                           intro A2 c2 w7 hown7 hgrow7
                           have HO7 := Lib.hid hown7
                           have HB7 := Lib.hid (show Below wx.heap.size wx w7 from append_below hgrow7 (show Below wx.heap.size wx _ by go_grown) (Below.refl _ _) (Nat.le_refl _) (fun k hk => by simp [Value.ownBlock] at hk; omega))
                           have HG7 := Lib.hid hgrow7
                           clear hown7 hgrow7)
                      refine hK.out _ _ ?_ (fun hHeld => ?_)
                      · (try dsimp only)
                        first
                          | (refine ⟨?_, ?_, ?_, ?_, ?_, ?_, ?_⟩ <;> with_reducible assumption)
                          | (refine ⟨cell_keep ?_ x0, cell_keep ?_ x1, cell_keep ?_ x2, cell_keep ?_ x3, cell_keep ?_ x4, cell_keep ?_ x5, cell_keep ?_ x6⟩ <;> first | exact HB7.out | (refine HB7.out.trans (Below.mono (show Below w7.heap.size w7 _ from ?_) HB7.out.size); go_grown; done) | (go_grown; done))
                      clear hK K
                      (try change wpAnyN _ _ _ _ _ _ _ _ (Act.put _ (some 92) _) _)
                      try (unfold Act.put; dsimp only)
                      refine wpAnyN_ready (rs := [5]) (by kernel_rfl) (by simp) ?_
                      refine AllReadyN.last rfl rfl (fun K hK => ?_) ?_
                      · first
                          | (refine step_append_evs rfl _ _ rfl rfl wx.heap.size (.slice A2 l.length c2) l.length ([] ++ l) (by rfl) HO7.out (some ⟨wx.heap.size + 1, 0, none⟩) 1 1 [(⟨1, ec, ex, et, er, em, eq⟩ : Ev)] (by rfl) rfl (rde_of_block (cs := #[.int .i64 1, .int .i64 ec, .int .i64 ex, .int .i64 et, .int .i64 er, .int .i64 em, .int .i64 eq]) (T := 43) (fr := (0, 0)) (grown_keep HG7.out (by first | omega | (simp; done)) (by (repeat (first | rw [heap_drew] | rw [heap_push])); simp)) rfl) HB7.out.size (by have := HLN.out; omega) _ rfl ?_
                             intro A3 c3 w9 hown9 hgrow9
                             have HO9 := Lib.hid hown9
                             have HB9 := Lib.hid (show Below wx.heap.size wx w9 from HB7.out.grown hgrow9 HB7.out.size (fun k hk => (HO7.out.lt k hk).1))
                             clear hown9 hgrow9)
                          | (refine step_append_evs rfl _ _ rfl rfl wx.heap.size (.slice A2 l.length c2) l.length ([] ++ l) (by rfl) HO7.out (some ⟨wx.heap.size, 0, none⟩) 1 1 [(⟨1, ec, ex, et, er, em, eq⟩ : Ev)] (by rfl) rfl (rde_of_block (cs := #[.int .i64 1, .int .i64 ec, .int .i64 ex, .int .i64 et, .int .i64 er, .int .i64 em, .int .i64 eq]) (T := 43) (fr := (0, 0)) (grown_keep HG7.out (by first | omega | (simp; done)) (by (repeat (first | rw [heap_drew] | rw [heap_push])); simp)) rfl) HB7.out.size (by have := HLN.out; omega) _ rfl ?_
                             intro A3 c3 w9 hown9 hgrow9
                             have HO9 := Lib.hid hown9
                             have HB9 := Lib.hid (show Below wx.heap.size wx w9 from HB7.out.grown hgrow9 HB7.out.size (fun k hk => (HO7.out.lt k hk).1))
                             clear hown9 hgrow9)
                          | (refine step_append_evs rfl _ _ rfl rfl wx.heap.size (.slice A2 l.length c2) l.length ([] ++ l) (by rfl) (own_below HO7.out (by go_grown)) (some ⟨w7.heap.size, 0, none⟩) 1 1 [(⟨1, ec, ex, et, er, em, eq⟩ : Ev)] (by rfl) rfl (rde_of_block (cs := #[.int .i64 1, .int .i64 ec, .int .i64 ex, .int .i64 et, .int .i64 er, .int .i64 em, .int .i64 eq]) (T := 43) (fr := (0, 0)) (by (repeat (first | rw [heap_drew] | rw [heap_push])); simp; done) rfl) (by have := HB7.out.size; first | (simp; done) | (simp; omega) | omega) (by have := HLN.out; omega) _ rfl ?_
                             intro A3 c3 w9 hown9 hgrow9
                             have HO9 := Lib.hid hown9
                             have HB9 := Lib.hid (show Below wx.heap.size wx w9 from (HB7.out.trans (show Below wx.heap.size w7 _ from Below.mono (show Below w7.heap.size w7 _ by go_grown) HB7.out.size)).grown hgrow9 (by have := HB7.out.size; first | (simp; done) | (simp; omega) | omega) (fun k hk => (HO7.out.lt k hk).1))
                             clear hown9 hgrow9)
                        refine hK.out _ _ ?_
                        clear hK K
                        (try change wpAnyN _ _ _ _ _ _ _ _ (Act.put _ (some 95) _) _)
                        try (unfold Act.put; dsimp only)
                        refine wpAnyN_ready (rs := [6]) (by kernel_rfl) (by simp) ?_
                        refine AllReadyN.last rfl rfl (fun K hK => ?_) ?_
                        · go_simp
                          go_at_call 8
                          refine (check_good A3 (l.length + 1) c3 ([] ++ l ++ [(⟨1, ec, ex, et, er, em, eq⟩ : Ev)]) w9 (rde_own HO9.out).1 (rde_own HO9.out).2 (by have := HLN.out; omega) HPL.out).mono ?_
                          rintro e w10 ⟨rfl, hb10⟩
                          have HB10 := Lib.hid (HB9.out.trans (hb10.mono HB9.out.size))
                          clear hb10
                          dsimp only
                          refine hK.out _ _ ?_
                          clear hK K
                          (try change wpAnyN _ _ _ _ _ _ _ _ (Act.put _ (some 96) _) _)
                          try (unfold Act.put; dsimp only)
                          refine wpAnyN_ready (rs := [7]) (by kernel_rfl) (by simp) ?_
                          refine AllReadyN.last rfl rfl (fun K hK => ?_) ?_
                          · go_simp
                            refine hK.out _ _ ?_
                            clear hK K
                            (try change wpAnyN _ _ _ _ _ _ _ _ (Act.put _ (some 17) _) _)
                            try (unfold Act.put; dsimp only)
                            refine wpAnyN_done (by kernel_rfl) ?_ _
                            skip
                            have y0 := cell_keep HB10.out x0
                            clear x0 x1 x2 x3 x4 x5 x6
                            go_wp2
                            go_ret
                            exact ⟨rfl, HBF.out.trans (HB10.out.mono HBF.out.size)⟩
                          exact AllReadyN.nil
                        exact AllReadyN.nil
                      exact AllReadyN.nil
                    exact AllReadyN.nil
                  exact AllReadyN.nil
                refine AllReadyN.cons rfl (fun K hK => ?_) ?_
                · go_simp
                  refine hK.out _ _ ?_ (fun hHeld => ?_)
                  · (try dsimp only)
                    first
                      | (refine ⟨?_, ?_, ?_, ?_, ?_, ?_, ?_⟩ <;> with_reducible assumption)
                      | (refine ⟨cell_keep ?_ x0, cell_keep ?_ x1, cell_keep ?_ x2, cell_keep ?_ x3, cell_keep ?_ x4, cell_keep ?_ x5, cell_keep ?_ x6⟩ <;> first | exact HB7.out | (refine HB7.out.trans (Below.mono (show Below w7.heap.size w7 _ from ?_) HB7.out.size); go_grown; done) | (go_grown; done))
                  clear hK K
                  (try change wpAnyN _ _ _ _ _ _ _ _ (Act.put _ (some 94) _) _)
                  try (unfold Act.put; dsimp only)
                  refine wpAnyN_ready (rs := [0]) (by kernel_rfl) (by simp) ?_
                  refine AllReadyN.cons rfl (fun K hK => ?_) ?_
                  · go_simp
                    refine hK.out _ _ ?_ (fun hHeld => ?_)
                    · (try dsimp only)
                      first
                        | (refine ⟨?_, ?_, ?_, ?_, ?_, ?_, ?_⟩ <;> with_reducible assumption)
                        | (refine ⟨cell_keep ?_ x0, cell_keep ?_ x1, cell_keep ?_ x2, cell_keep ?_ x3, cell_keep ?_ x4, cell_keep ?_ x5, cell_keep ?_ x6⟩ <;> first | exact HB7.out | (refine HB7.out.trans (Below.mono (show Below w7.heap.size w7 _ from ?_) HB7.out.size); go_grown; done) | (go_grown; done))
                    clear hK K
                    (try change wpAnyN _ _ _ _ _ _ _ _ (Act.put _ (some 90) _) _)
                    try (unfold Act.put; dsimp only)
                    refine wpAnyN_ready (rs := [2]) (by kernel_rfl) (by simp) ?_
                    refine AllReadyN.cons rfl (fun K hK => ?_) ?_
                    · first
                        | (refine step_append_evs rfl _ _ rfl rfl wx.heap.size (.slice (some ⟨wx.heap.size, 0, none⟩) 0 0) 0 [] (by rfl) (own_at_empty (by (repeat (first | rw [heap_drew] | rw [heap_push])); simp; done) (Nat.le_refl _)) A l.length c l (by rfl) rfl (HRL.out.below (show Below wx.heap.size wx _ by go_grown) (Nat.le_refl _)) (by first | (simp; done) | (simp; omega)) (by have := HLN.out; omega) l.length (Nat.zero_add _) ?_
                           intro A2 c2 w7 hown7 hgrow7
                           have HO7 := Lib.hid hown7
                           have HB7 := Lib.hid (show Below wx.heap.size wx w7 from append_below hgrow7 (show Below wx.heap.size wx _ by go_grown) (Below.refl _ _) (Nat.le_refl _) (fun k hk => by simp [Value.ownBlock] at hk; omega))
                           have HG7 := Lib.hid hgrow7
                           clear hown7 hgrow7)
                        | (refine step_append_evs rfl _ _ rfl rfl wx.heap.size (.slice (some ⟨wx.heap.size + 1, 0, none⟩) 0 0) 0 [] (by rfl) (own_at_empty (by (repeat (first | rw [heap_drew] | rw [heap_push])); simp; done) (Nat.le_succ _)) A l.length c l (by rfl) rfl (HRL.out.below (show Below wx.heap.size wx _ by go_grown) (Nat.le_refl _)) (by first | (simp; done) | (simp; omega)) (by have := HLN.out; omega) l.length (Nat.zero_add _) ?_
                           intro A2 c2 w7 hown7 hgrow7
                           have HO7 := Lib.hid hown7
                           have HB7 := Lib.hid (show Below wx.heap.size wx w7 from append_below hgrow7 (show Below wx.heap.size wx _ by go_grown) (Below.refl _ _) (Nat.le_refl _) (fun k hk => by simp [Value.ownBlock] at hk; omega))
                           have HG7 := Lib.hid hgrow7
                           clear hown7 hgrow7)
                      refine hK.out _ _ ?_ (fun hHeld => ?_)
                      · (try dsimp only)
                        first
                          | (refine ⟨?_, ?_, ?_, ?_, ?_, ?_, ?_⟩ <;> with_reducible assumption)
                          | (refine ⟨cell_keep ?_ x0, cell_keep ?_ x1, cell_keep ?_ x2, cell_keep ?_ x3, cell_keep ?_ x4, cell_keep ?_ x5, cell_keep ?_ x6⟩ <;> first | exact HB7.out | (refine HB7.out.trans (Below.mono (show Below w7.heap.size w7 _ from ?_) HB7.out.size); go_grown; done) | (go_grown; done))
                      clear hK K
                      (try change wpAnyN _ _ _ _ _ _ _ _ (Act.put _ (some 92) _) _)
                      try (unfold Act.put; dsimp only)
                      refine wpAnyN_ready (rs := [5]) (by kernel_rfl) (by simp) ?_
                      refine AllReadyN.last rfl rfl (fun K hK => ?_) ?_
                      · first
                          | (refine step_append_evs rfl _ _ rfl rfl wx.heap.size (.slice A2 l.length c2) l.length ([] ++ l) (by rfl) HO7.out (some ⟨wx.heap.size + 1, 0, none⟩) 1 1 [(⟨1, ec, ex, et, er, em, eq⟩ : Ev)] (by rfl) rfl (rde_of_block (cs := #[.int .i64 1, .int .i64 ec, .int .i64 ex, .int .i64 et, .int .i64 er, .int .i64 em, .int .i64 eq]) (T := 43) (fr := (0, 0)) (grown_keep HG7.out (by first | omega | (simp; done)) (by (repeat (first | rw [heap_drew] | rw [heap_push])); simp)) rfl) HB7.out.size (by have := HLN.out; omega) _ rfl ?_
                             intro A3 c3 w9 hown9 hgrow9
                             have HO9 := Lib.hid hown9
                             have HB9 := Lib.hid (show Below wx.heap.size wx w9 from HB7.out.grown hgrow9 HB7.out.size (fun k hk => (HO7.out.lt k hk).1))
                             clear hown9 hgrow9)
                          | (refine step_append_evs rfl _ _ rfl rfl wx.heap.size (.slice A2 l.length c2) l.length ([] ++ l) (by rfl) HO7.out (some ⟨wx.heap.size, 0, none⟩) 1 1 [(⟨1, ec, ex, et, er, em, eq⟩ : Ev)] (by rfl) rfl (rde_of_block (cs := #[.int .i64 1, .int .i64 ec, .int .i64 ex, .int .i64 et, .int .i64 er, .int .i64 em, .int .i64 eq]) (T := 43) (fr := (0, 0)) (grown_keep HG7.out (by first | omega | (simp; done)) (by (repeat (first | rw [heap_drew] | rw [heap_push])); simp)) rfl) HB7.out.size (by have := HLN.out; omega) _ rfl ?_
                             intro A3 c3 w9 hown9 hgrow9
                             have HO9 := Lib.hid hown9
                             have HB9 := Lib.hid (show Below wx.heap.size wx w9 from HB7.out.grown hgrow9 HB7.out.size (fun k hk => (HO7.out.lt k hk).1))
                             clear hown9 hgrow9)
                          | (refine step_append_evs rfl _ _ rfl rfl wx.heap.size (.slice A2 l.length c2) l.length ([] ++ l) (by rfl) (own_below HO7.out (by go_grown)) (some ⟨w7.heap.size, 0, none⟩) 1 1 [(⟨1, ec, ex, et, er, em, eq⟩ : Ev)] (by rfl) rfl (rde_of_block (cs := #[.int .i64 1, .int .i64 ec, .int .i64 ex, .int .i64 et, .int .i64 er, .int .i64 em, .int .i64 eq]) (T := 43) (fr := (0, 0)) (by (repeat (first | rw [heap_drew] | rw [heap_push])); simp; done) rfl) (by have := HB7.out.size; first | (simp; done) | (simp; omega) | omega) (by have := HLN.out; omega) _ rfl ?_
                             intro A3 c3 w9 hown9 hgrow9
                             have HO9 := Lib.hid hown9
                             have HB9 := Lib.hid (show Below wx.heap.size wx w9 from (HB7.out.trans (show Below wx.heap.size w7 _ from Below.mono (show Below w7.heap.size w7 _ by go_grown) HB7.out.size)).grown hgrow9 (by have := HB7.out.size; first | (simp; done) | (simp; omega) | omega) (fun k hk => (HO7.out.lt k hk).1))
                             clear hown9 hgrow9)
                        refine hK.out _ _ ?_
                        clear hK K
                        (try change wpAnyN _ _ _ _ _ _ _ _ (Act.put _ (some 95) _) _)
                        try (unfold Act.put; dsimp only)
                        refine wpAnyN_ready (rs := [6]) (by kernel_rfl) (by simp) ?_
                        refine AllReadyN.last rfl rfl (fun K hK => ?_) ?_
                        · go_simp
                          go_at_call 8
                          refine (check_good A3 (l.length + 1) c3 ([] ++ l ++ [(⟨1, ec, ex, et, er, em, eq⟩ : Ev)]) w9 (rde_own HO9.out).1 (rde_own HO9.out).2 (by have := HLN.out; omega) HPL.out).mono ?_
                          rintro e w10 ⟨rfl, hb10⟩
                          have HB10 := Lib.hid (HB9.out.trans (hb10.mono HB9.out.size))
                          clear hb10
                          dsimp only
                          refine hK.out _ _ ?_
                          clear hK K
                          (try change wpAnyN _ _ _ _ _ _ _ _ (Act.put _ (some 96) _) _)
                          try (unfold Act.put; dsimp only)
                          refine wpAnyN_ready (rs := [7]) (by kernel_rfl) (by simp) ?_
                          refine AllReadyN.last rfl rfl (fun K hK => ?_) ?_
                          · go_simp
                            refine hK.out _ _ ?_
                            clear hK K
                            (try change wpAnyN _ _ _ _ _ _ _ _ (Act.put _ (some 17) _) _)
                            try (unfold Act.put; dsimp only)
                            refine wpAnyN_done (by kernel_rfl) ?_ _
                            skip
                            have y0 := cell_keep HB10.out x0
                            clear x0 x1 x2 x3 x4 x5 x6
                            go_wp2
                            go_ret
                            exact ⟨rfl, HBF.out.trans (HB10.out.mono HBF.out.size)⟩
                          exact AllReadyN.nil
                        exact AllReadyN.nil
                      exact AllReadyN.nil
                    exact AllReadyN.nil
                  exact AllReadyN.nil
                exact AllReadyN.nil
              · subst hek
                refine wp_region_N (S := (fun w' => w'.cell? ⟨w.heap.size, 0, none⟩ = some (.int .i64 8) ∧ w'.cell? ⟨w.heap.size, 1, none⟩ = some (.int .i64 ec) ∧ w'.cell? ⟨w.heap.size, 2, none⟩ = some (.int .i64 ex) ∧ w'.cell? ⟨w.heap.size, 3, none⟩ = some (.int .i64 et) ∧ w'.cell? ⟨w.heap.size, 4, none⟩ = some (.int .i64 er) ∧ w'.cell? ⟨w.heap.size, 5, none⟩ = some (.int .i64 em) ∧ w'.cell? ⟨w.heap.size, 6, none⟩ = some (.int .i64 eq))) (fun i => !(i == 5 || i == 6 || i == 7)) (by kernel_rfl) ?_ (fun hHeld => ?_)
                · (try dsimp only)
                  first
                    | (refine ⟨?_, ?_, ?_, ?_, ?_, ?_, ?_⟩ <;> with_reducible assumption)
                    | (refine ⟨cell_keep ?_ x0, cell_keep ?_ x1, cell_keep ?_ x2, cell_keep ?_ x3, cell_keep ?_ x4, cell_keep ?_ x5, cell_keep ?_ x6⟩ <;> first | exact HB7.out | (refine HB7.out.trans (Below.mono (show Below w7.heap.size w7 _ from ?_) HB7.out.size); go_grown; done) | (go_grown; done))
                refine wpAnyN_take [2, 5, 6, 7] (i := 1) (v := ?_) rfl (by kernel_rfl) (by kernel_rfl) (by kernel_rfl) (by kernel_rfl) (by kernel_rfl) (fun _ _ _ h => h) (Or.inl ⟨by first | kernel_rfl | rfl, ?_⟩) (by assumption) ?_
                rotate_left
                focus
                  intro w hSw
                  (try dsimp only at hSw)
                  go_simp
                  try with_reducible rfl
                (try change wpAnyN _ _ _ _ _ _ _ _ (Act.put _ (some 91) _) _)
                try (unfold Act.put; dsimp only)
                refine wpAnyN_take [4, 5, 6, 7] (i := 3) (v := ?_) rfl (by kernel_rfl) (by kernel_rfl) (by kernel_rfl) (by kernel_rfl) (by kernel_rfl) (fun _ _ _ h => h) (Or.inl ⟨by first | kernel_rfl | rfl, ?_⟩) (by assumption) ?_
                rotate_left
                focus
                  intro w hSw
                  (try dsimp only at hSw)
                  go_simp
                  try with_reducible rfl
                (try change wpAnyN _ _ _ _ _ _ _ _ (Act.put _ (some 93) _) _)
                try (unfold Act.put; dsimp only)
                refine wpAnyN_ready (rs := [0, 4]) (by kernel_rfl) (by simp) ?_
                refine AllReadyN.cons rfl (fun K hK => ?_) ?_
                · go_simp
                  refine hK.out _ _ ?_ (fun hHeld => ?_)
                  · (try dsimp only)
                    first
                      | (refine ⟨?_, ?_, ?_, ?_, ?_, ?_, ?_⟩ <;> with_reducible assumption)
                      | (refine ⟨cell_keep ?_ x0, cell_keep ?_ x1, cell_keep ?_ x2, cell_keep ?_ x3, cell_keep ?_ x4, cell_keep ?_ x5, cell_keep ?_ x6⟩ <;> first | exact HB7.out | (refine HB7.out.trans (Below.mono (show Below w7.heap.size w7 _ from ?_) HB7.out.size); go_grown; done) | (go_grown; done))
                  clear hK K
                  (try change wpAnyN _ _ _ _ _ _ _ _ (Act.put _ (some 90) _) _)
                  try (unfold Act.put; dsimp only)
                  refine wpAnyN_ready (rs := [2, 4]) (by kernel_rfl) (by simp) ?_
                  refine AllReadyN.cons rfl (fun K hK => ?_) ?_
                  · first
                      | (refine step_append_evs rfl _ _ rfl rfl wx.heap.size (.slice (some ⟨wx.heap.size, 0, none⟩) 0 0) 0 [] (by rfl) (own_at_empty (by (repeat (first | rw [heap_drew] | rw [heap_push])); simp; done) (Nat.le_refl _)) A l.length c l (by rfl) rfl (HRL.out.below (show Below wx.heap.size wx _ by go_grown) (Nat.le_refl _)) (by first | (simp; done) | (simp; omega)) (by have := HLN.out; omega) l.length (Nat.zero_add _) ?_
                         intro A2 c2 w7 hown7 hgrow7
                         have HO7 := Lib.hid hown7
                         have HB7 := Lib.hid (show Below wx.heap.size wx w7 from append_below hgrow7 (show Below wx.heap.size wx _ by go_grown) (Below.refl _ _) (Nat.le_refl _) (fun k hk => by simp [Value.ownBlock] at hk; omega))
                         have HG7 := Lib.hid hgrow7
                         clear hown7 hgrow7)
                      | (refine step_append_evs rfl _ _ rfl rfl wx.heap.size (.slice (some ⟨wx.heap.size + 1, 0, none⟩) 0 0) 0 [] (by rfl) (own_at_empty (by (repeat (first | rw [heap_drew] | rw [heap_push])); simp; done) (Nat.le_succ _)) A l.length c l (by rfl) rfl (HRL.out.below (show Below wx.heap.size wx _ by go_grown) (Nat.le_refl _)) (by first | (simp; done) | (simp; omega)) (by have := HLN.out; omega) l.length (Nat.zero_add _) ?_
                         intro A2 c2 w7 hown7 hgrow7
                         have HO7 := Lib.hid hown7
                         have HB7 := Lib.hid (show Below wx.heap.size wx w7 from append_below hgrow7 (show Below wx.heap.size wx _ by go_grown) (Below.refl _ _) (Nat.le_refl _) (fun k hk => by simp [Value.ownBlock] at hk; omega))
                         have HG7 := Lib.hid hgrow7
                         clear hown7 hgrow7)
                    refine hK.out _ _ ?_ (fun hHeld => ?_)
                    · (try dsimp only)
                      first
                        | (refine ⟨?_, ?_, ?_, ?_, ?_, ?_, ?_⟩ <;> with_reducible assumption)
                        | (refine ⟨cell_keep ?_ x0, cell_keep ?_ x1, cell_keep ?_ x2, cell_keep ?_ x3, cell_keep ?_ x4, cell_keep ?_ x5, cell_keep ?_ x6⟩ <;> first | exact HB7.out | (refine HB7.out.trans (Below.mono (show Below w7.heap.size w7 _ from ?_) HB7.out.size); go_grown; done) | (go_grown; done))
                    clear hK K
                    (try change wpAnyN _ _ _ _ _ _ _ _ (Act.put _ (some 92) _) _)
                    try (unfold Act.put; dsimp only)
                    refine wpAnyN_ready (rs := [4]) (by kernel_rfl) (by simp) ?_
                    refine AllReadyN.cons rfl (fun K hK => ?_) ?_
                    · go_simp
                      refine hK.out _ _ ?_ (fun hHeld => ?_)
                      · (try dsimp only)
                        first
                          | (refine ⟨?_, ?_, ?_, ?_, ?_, ?_, ?_⟩ <;> with_reducible assumption)
                          | (refine ⟨cell_keep ?_ x0, cell_keep ?_ x1, cell_keep ?_ x2, cell_keep ?_ x3, cell_keep ?_ x4, cell_keep ?_ x5, cell_keep ?_ x6⟩ <;> first | exact HB7.out | (refine HB7.out.trans (Below.mono (show Below w7.heap.size w7 _ from ?_) HB7.out.size); go_grown; done) | (go_grown; done))
                      clear hK K
                      (try change wpAnyN _ _ _ _ _ _ _ _ (Act.put _ (some 94) _) _)
                      try (unfold Act.put; dsimp only)
                      refine wpAnyN_ready (rs := [5]) (by kernel_rfl) (by simp) ?_
                      refine AllReadyN.last rfl rfl (fun K hK => ?_) ?_
                      · first
                          | (refine step_append_evs rfl _ _ rfl rfl wx.heap.size (.slice A2 l.length c2) l.length ([] ++ l) (by rfl) HO7.out (some ⟨wx.heap.size + 1, 0, none⟩) 1 1 [(⟨8, ec, ex, et, er, em, eq⟩ : Ev)] (by rfl) rfl (rde_of_block (cs := #[.int .i64 8, .int .i64 ec, .int .i64 ex, .int .i64 et, .int .i64 er, .int .i64 em, .int .i64 eq]) (T := 43) (fr := (0, 0)) (grown_keep HG7.out (by first | omega | (simp; done)) (by (repeat (first | rw [heap_drew] | rw [heap_push])); simp)) rfl) HB7.out.size (by have := HLN.out; omega) _ rfl ?_
                             intro A3 c3 w9 hown9 hgrow9
                             have HO9 := Lib.hid hown9
                             have HB9 := Lib.hid (show Below wx.heap.size wx w9 from HB7.out.grown hgrow9 HB7.out.size (fun k hk => (HO7.out.lt k hk).1))
                             clear hown9 hgrow9)
                          | (refine step_append_evs rfl _ _ rfl rfl wx.heap.size (.slice A2 l.length c2) l.length ([] ++ l) (by rfl) HO7.out (some ⟨wx.heap.size, 0, none⟩) 1 1 [(⟨8, ec, ex, et, er, em, eq⟩ : Ev)] (by rfl) rfl (rde_of_block (cs := #[.int .i64 8, .int .i64 ec, .int .i64 ex, .int .i64 et, .int .i64 er, .int .i64 em, .int .i64 eq]) (T := 43) (fr := (0, 0)) (grown_keep HG7.out (by first | omega | (simp; done)) (by (repeat (first | rw [heap_drew] | rw [heap_push])); simp)) rfl) HB7.out.size (by have := HLN.out; omega) _ rfl ?_
                             intro A3 c3 w9 hown9 hgrow9
                             have HO9 := Lib.hid hown9
                             have HB9 := Lib.hid (show Below wx.heap.size wx w9 from HB7.out.grown hgrow9 HB7.out.size (fun k hk => (HO7.out.lt k hk).1))
                             clear hown9 hgrow9)
                          | (refine step_append_evs rfl _ _ rfl rfl wx.heap.size (.slice A2 l.length c2) l.length ([] ++ l) (by rfl) (own_below HO7.out (by go_grown)) (some ⟨w7.heap.size, 0, none⟩) 1 1 [(⟨8, ec, ex, et, er, em, eq⟩ : Ev)] (by rfl) rfl (rde_of_block (cs := #[.int .i64 8, .int .i64 ec, .int .i64 ex, .int .i64 et, .int .i64 er, .int .i64 em, .int .i64 eq]) (T := 43) (fr := (0, 0)) (by (repeat (first | rw [heap_drew] | rw [heap_push])); simp; done) rfl) (by have := HB7.out.size; first | (simp; done) | (simp; omega) | omega) (by have := HLN.out; omega) _ rfl ?_
                             intro A3 c3 w9 hown9 hgrow9
                             have HO9 := Lib.hid hown9
                             have HB9 := Lib.hid (show Below wx.heap.size wx w9 from (HB7.out.trans (show Below wx.heap.size w7 _ from Below.mono (show Below w7.heap.size w7 _ by go_grown) HB7.out.size)).grown hgrow9 (by have := HB7.out.size; first | (simp; done) | (simp; omega) | omega) (fun k hk => (HO7.out.lt k hk).1))
                             clear hown9 hgrow9)
                        refine hK.out _ _ ?_
                        clear hK K
                        (try change wpAnyN _ _ _ _ _ _ _ _ (Act.put _ (some 95) _) _)
                        try (unfold Act.put; dsimp only)
                        refine wpAnyN_ready (rs := [6]) (by kernel_rfl) (by simp) ?_
                        refine AllReadyN.last rfl rfl (fun K hK => ?_) ?_
                        · go_simp
                          go_at_call 8
                          refine (check_good A3 (l.length + 1) c3 ([] ++ l ++ [(⟨8, ec, ex, et, er, em, eq⟩ : Ev)]) w9 (rde_own HO9.out).1 (rde_own HO9.out).2 (by have := HLN.out; omega) HPL.out).mono ?_
                          rintro e w10 ⟨rfl, hb10⟩
                          have HB10 := Lib.hid (HB9.out.trans (hb10.mono HB9.out.size))
                          clear hb10
                          dsimp only
                          refine hK.out _ _ ?_
                          clear hK K
                          (try change wpAnyN _ _ _ _ _ _ _ _ (Act.put _ (some 96) _) _)
                          try (unfold Act.put; dsimp only)
                          refine wpAnyN_ready (rs := [7]) (by kernel_rfl) (by simp) ?_
                          refine AllReadyN.last rfl rfl (fun K hK => ?_) ?_
                          · go_simp
                            refine hK.out _ _ ?_
                            clear hK K
                            (try change wpAnyN _ _ _ _ _ _ _ _ (Act.put _ (some 17) _) _)
                            try (unfold Act.put; dsimp only)
                            refine wpAnyN_done (by kernel_rfl) ?_ _
                            skip
                            have y0 := cell_keep HB10.out x0
                            clear x0 x1 x2 x3 x4 x5 x6
                            go_wp2
                            go_ret
                            exact ⟨rfl, HBF.out.trans (HB10.out.mono HBF.out.size)⟩
                          exact AllReadyN.nil
                        exact AllReadyN.nil
                      exact AllReadyN.nil
                    exact AllReadyN.nil
                  refine AllReadyN.cons rfl (fun K hK => ?_) ?_
                  · go_simp
                    refine hK.out _ _ ?_ (fun hHeld => ?_)
                    · (try dsimp only)
                      first
                        | (refine ⟨?_, ?_, ?_, ?_, ?_, ?_, ?_⟩ <;> with_reducible assumption)
                        | (refine ⟨cell_keep ?_ x0, cell_keep ?_ x1, cell_keep ?_ x2, cell_keep ?_ x3, cell_keep ?_ x4, cell_keep ?_ x5, cell_keep ?_ x6⟩ <;> first | exact HB7.out | (refine HB7.out.trans (Below.mono (show Below w7.heap.size w7 _ from ?_) HB7.out.size); go_grown; done) | (go_grown; done))
                    clear hK K
                    (try change wpAnyN _ _ _ _ _ _ _ _ (Act.put _ (some 94) _) _)
                    try (unfold Act.put; dsimp only)
                    refine wpAnyN_ready (rs := [2]) (by kernel_rfl) (by simp) ?_
                    refine AllReadyN.cons rfl (fun K hK => ?_) ?_
                    · first
                        | (refine step_append_evs rfl _ _ rfl rfl wx.heap.size (.slice (some ⟨wx.heap.size, 0, none⟩) 0 0) 0 [] (by rfl) (own_at_empty (by (repeat (first | rw [heap_drew] | rw [heap_push])); simp; done) (Nat.le_refl _)) A l.length c l (by rfl) rfl (HRL.out.below (show Below wx.heap.size wx _ by go_grown) (Nat.le_refl _)) (by first | (simp; done) | (simp; omega)) (by have := HLN.out; omega) l.length (Nat.zero_add _) ?_
                           intro A2 c2 w7 hown7 hgrow7
                           have HO7 := Lib.hid hown7
                           have HB7 := Lib.hid (show Below wx.heap.size wx w7 from append_below hgrow7 (show Below wx.heap.size wx _ by go_grown) (Below.refl _ _) (Nat.le_refl _) (fun k hk => by simp [Value.ownBlock] at hk; omega))
                           have HG7 := Lib.hid hgrow7
                           clear hown7 hgrow7)
                        | (refine step_append_evs rfl _ _ rfl rfl wx.heap.size (.slice (some ⟨wx.heap.size + 1, 0, none⟩) 0 0) 0 [] (by rfl) (own_at_empty (by (repeat (first | rw [heap_drew] | rw [heap_push])); simp; done) (Nat.le_succ _)) A l.length c l (by rfl) rfl (HRL.out.below (show Below wx.heap.size wx _ by go_grown) (Nat.le_refl _)) (by first | (simp; done) | (simp; omega)) (by have := HLN.out; omega) l.length (Nat.zero_add _) ?_
                           intro A2 c2 w7 hown7 hgrow7
                           have HO7 := Lib.hid hown7
                           have HB7 := Lib.hid (show Below wx.heap.size wx w7 from append_below hgrow7 (show Below wx.heap.size wx _ by go_grown) (Below.refl _ _) (Nat.le_refl _) (fun k hk => by simp [Value.ownBlock] at hk; omega))
                           have HG7 := Lib.hid hgrow7
                           clear hown7 hgrow7)
                      refine hK.out _ _ ?_ (fun hHeld => ?_)
                      · (try dsimp only)
                        first
                          | (refine ⟨?_, ?_, ?_, ?_, ?_, ?_, ?_⟩ <;> with_reducible assumption)
                          | (refine ⟨cell_keep ?_ x0, cell_keep ?_ x1, cell_keep ?_ x2, cell_keep ?_ x3, cell_keep ?_ x4, cell_keep ?_ x5, cell_keep ?_ x6⟩ <;> first | exact HB7.out | (refine HB7.out.trans (Below.mono (show Below w7.heap.size w7 _ from ?_) HB7.out.size); go_grown; done) | (go_grown; done))
                      clear hK K
                      (try change wpAnyN _ _ _ _ _ _ _ _ (Act.put _ (some 92) _) _)
                      try (unfold Act.put; dsimp only)
                      refine wpAnyN_ready (rs := [5]) (by kernel_rfl) (by simp) ?_
                      refine AllReadyN.last rfl rfl (fun K hK => ?_) ?_
                      · first
                          | (refine step_append_evs rfl _ _ rfl rfl wx.heap.size (.slice A2 l.length c2) l.length ([] ++ l) (by rfl) HO7.out (some ⟨wx.heap.size + 1, 0, none⟩) 1 1 [(⟨8, ec, ex, et, er, em, eq⟩ : Ev)] (by rfl) rfl (rde_of_block (cs := #[.int .i64 8, .int .i64 ec, .int .i64 ex, .int .i64 et, .int .i64 er, .int .i64 em, .int .i64 eq]) (T := 43) (fr := (0, 0)) (grown_keep HG7.out (by first | omega | (simp; done)) (by (repeat (first | rw [heap_drew] | rw [heap_push])); simp)) rfl) HB7.out.size (by have := HLN.out; omega) _ rfl ?_
                             intro A3 c3 w9 hown9 hgrow9
                             have HO9 := Lib.hid hown9
                             have HB9 := Lib.hid (show Below wx.heap.size wx w9 from HB7.out.grown hgrow9 HB7.out.size (fun k hk => (HO7.out.lt k hk).1))
                             clear hown9 hgrow9)
                          | (refine step_append_evs rfl _ _ rfl rfl wx.heap.size (.slice A2 l.length c2) l.length ([] ++ l) (by rfl) HO7.out (some ⟨wx.heap.size, 0, none⟩) 1 1 [(⟨8, ec, ex, et, er, em, eq⟩ : Ev)] (by rfl) rfl (rde_of_block (cs := #[.int .i64 8, .int .i64 ec, .int .i64 ex, .int .i64 et, .int .i64 er, .int .i64 em, .int .i64 eq]) (T := 43) (fr := (0, 0)) (grown_keep HG7.out (by first | omega | (simp; done)) (by (repeat (first | rw [heap_drew] | rw [heap_push])); simp)) rfl) HB7.out.size (by have := HLN.out; omega) _ rfl ?_
                             intro A3 c3 w9 hown9 hgrow9
                             have HO9 := Lib.hid hown9
                             have HB9 := Lib.hid (show Below wx.heap.size wx w9 from HB7.out.grown hgrow9 HB7.out.size (fun k hk => (HO7.out.lt k hk).1))
                             clear hown9 hgrow9)
                          | (refine step_append_evs rfl _ _ rfl rfl wx.heap.size (.slice A2 l.length c2) l.length ([] ++ l) (by rfl) (own_below HO7.out (by go_grown)) (some ⟨w7.heap.size, 0, none⟩) 1 1 [(⟨8, ec, ex, et, er, em, eq⟩ : Ev)] (by rfl) rfl (rde_of_block (cs := #[.int .i64 8, .int .i64 ec, .int .i64 ex, .int .i64 et, .int .i64 er, .int .i64 em, .int .i64 eq]) (T := 43) (fr := (0, 0)) (by (repeat (first | rw [heap_drew] | rw [heap_push])); simp; done) rfl) (by have := HB7.out.size; first | (simp; done) | (simp; omega) | omega) (by have := HLN.out; omega) _ rfl ?_
                             intro A3 c3 w9 hown9 hgrow9
                             have HO9 := Lib.hid hown9
                             have HB9 := Lib.hid (show Below wx.heap.size wx w9 from (HB7.out.trans (show Below wx.heap.size w7 _ from Below.mono (show Below w7.heap.size w7 _ by go_grown) HB7.out.size)).grown hgrow9 (by have := HB7.out.size; first | (simp; done) | (simp; omega) | omega) (fun k hk => (HO7.out.lt k hk).1))
                             clear hown9 hgrow9)
                        refine hK.out _ _ ?_
                        clear hK K
                        (try change wpAnyN _ _ _ _ _ _ _ _ (Act.put _ (some 95) _) _)
                        try (unfold Act.put; dsimp only)
                        refine wpAnyN_ready (rs := [6]) (by kernel_rfl) (by simp) ?_
                        refine AllReadyN.last rfl rfl (fun K hK => ?_) ?_
                        · go_simp
                          go_at_call 8
                          refine (check_good A3 (l.length + 1) c3 ([] ++ l ++ [(⟨8, ec, ex, et, er, em, eq⟩ : Ev)]) w9 (rde_own HO9.out).1 (rde_own HO9.out).2 (by have := HLN.out; omega) HPL.out).mono ?_
                          rintro e w10 ⟨rfl, hb10⟩
                          have HB10 := Lib.hid (HB9.out.trans (hb10.mono HB9.out.size))
                          clear hb10
                          dsimp only
                          refine hK.out _ _ ?_
                          clear hK K
                          (try change wpAnyN _ _ _ _ _ _ _ _ (Act.put _ (some 96) _) _)
                          try (unfold Act.put; dsimp only)
                          refine wpAnyN_ready (rs := [7]) (by kernel_rfl) (by simp) ?_
                          refine AllReadyN.last rfl rfl (fun K hK => ?_) ?_
                          · go_simp
                            refine hK.out _ _ ?_
                            clear hK K
                            (try change wpAnyN _ _ _ _ _ _ _ _ (Act.put _ (some 17) _) _)
                            try (unfold Act.put; dsimp only)
                            refine wpAnyN_done (by kernel_rfl) ?_ _
                            skip
                            have y0 := cell_keep HB10.out x0
                            clear x0 x1 x2 x3 x4 x5 x6
                            go_wp2
                            go_ret
                            exact ⟨rfl, HBF.out.trans (HB10.out.mono HBF.out.size)⟩
                          exact AllReadyN.nil
                        exact AllReadyN.nil
                      exact AllReadyN.nil
                    exact AllReadyN.nil
                  exact AllReadyN.nil
                refine AllReadyN.cons rfl (fun K hK => ?_) ?_
                · go_simp
                  refine hK.out _ _ ?_ (fun hHeld => ?_)
                  · (try dsimp only)
                    first
                      | (refine ⟨?_, ?_, ?_, ?_, ?_, ?_, ?_⟩ <;> with_reducible assumption)
                      | (refine ⟨cell_keep ?_ x0, cell_keep ?_ x1, cell_keep ?_ x2, cell_keep ?_ x3, cell_keep ?_ x4, cell_keep ?_ x5, cell_keep ?_ x6⟩ <;> first | exact HB7.out | (refine HB7.out.trans (Below.mono (show Below w7.heap.size w7 _ from ?_) HB7.out.size); go_grown; done) | (go_grown; done))
                  clear hK K
                  (try change wpAnyN _ _ _ _ _ _ _ _ (Act.put _ (some 94) _) _)
                  try (unfold Act.put; dsimp only)
                  refine wpAnyN_ready (rs := [0]) (by kernel_rfl) (by simp) ?_
                  refine AllReadyN.cons rfl (fun K hK => ?_) ?_
                  · go_simp
                    refine hK.out _ _ ?_ (fun hHeld => ?_)
                    · (try dsimp only)
                      first
                        | (refine ⟨?_, ?_, ?_, ?_, ?_, ?_, ?_⟩ <;> with_reducible assumption)
                        | (refine ⟨cell_keep ?_ x0, cell_keep ?_ x1, cell_keep ?_ x2, cell_keep ?_ x3, cell_keep ?_ x4, cell_keep ?_ x5, cell_keep ?_ x6⟩ <;> first | exact HB7.out | (refine HB7.out.trans (Below.mono (show Below w7.heap.size w7 _ from ?_) HB7.out.size); go_grown; done) | (go_grown; done))
                    clear hK K
                    (try change wpAnyN _ _ _ _ _ _ _ _ (Act.put _ (some 90) _) _)
                    try (unfold Act.put; dsimp only)
                    refine wpAnyN_ready (rs := [2]) (by kernel_rfl) (by simp) ?_
                    refine AllReadyN.cons rfl (fun K hK => ?_) ?_
                    · first
                        | (refine step_append_evs rfl _ _ rfl rfl wx.heap.size (.slice (some ⟨wx.heap.size, 0, none⟩) 0 0) 0 [] (by rfl) (own_at_empty (by (repeat (first | rw [heap_drew] | rw [heap_push])); simp; done) (Nat.le_refl _)) A l.length c l (by rfl) rfl (HRL.out.below (show Below wx.heap.size wx _ by go_grown) (Nat.le_refl _)) (by first | (simp; done) | (simp; omega)) (by have := HLN.out; omega) l.length (Nat.zero_add _) ?_
                           intro A2 c2 w7 hown7 hgrow7
                           have HO7 := Lib.hid hown7
                           have HB7 := Lib.hid (show Below wx.heap.size wx w7 from append_below hgrow7 (show Below wx.heap.size wx _ by go_grown) (Below.refl _ _) (Nat.le_refl _) (fun k hk => by simp [Value.ownBlock] at hk; omega))
                           have HG7 := Lib.hid hgrow7
                           clear hown7 hgrow7)
                        | (refine step_append_evs rfl _ _ rfl rfl wx.heap.size (.slice (some ⟨wx.heap.size + 1, 0, none⟩) 0 0) 0 [] (by rfl) (own_at_empty (by (repeat (first | rw [heap_drew] | rw [heap_push])); simp; done) (Nat.le_succ _)) A l.length c l (by rfl) rfl (HRL.out.below (show Below wx.heap.size wx _ by go_grown) (Nat.le_refl _)) (by first | (simp; done) | (simp; omega)) (by have := HLN.out; omega) l.length (Nat.zero_add _) ?_
                           intro A2 c2 w7 hown7 hgrow7
                           have HO7 := Lib.hid hown7
                           have HB7 := Lib.hid (show Below wx.heap.size wx w7 from append_below hgrow7 (show Below wx.heap.size wx _ by go_grown) (Below.refl _ _) (Nat.le_refl _) (fun k hk => by simp [Value.ownBlock] at hk; omega))
                           have HG7 := Lib.hid hgrow7
                           clear hown7 hgrow7)
                      refine hK.out _ _ ?_ (fun hHeld => ?_)
                      · (try dsimp only)
                        first
                          | (refine ⟨?_, ?_, ?_, ?_, ?_, ?_, ?_⟩ <;> with_reducible assumption)
                          | (refine ⟨cell_keep ?_ x0, cell_keep ?_ x1, cell_keep ?_ x2, cell_keep ?_ x3, cell_keep ?_ x4, cell_keep ?_ x5, cell_keep ?_ x6⟩ <;> first | exact HB7.out | (refine HB7.out.trans (Below.mono (show Below w7.heap.size w7 _ from ?_) HB7.out.size); go_grown; done) | (go_grown; done))
                      clear hK K
                      (try change wpAnyN _ _ _ _ _ _ _ _ (Act.put _ (some 92) _) _)
                      try (unfold Act.put; dsimp only)
                      refine wpAnyN_ready (rs := [5]) (by kernel_rfl) (by simp) ?_
                      refine AllReadyN.last rfl rfl (fun K hK => ?_) ?_
                      · first
                          | (refine step_append_evs rfl _ _ rfl rfl wx.heap.size (.slice A2 l.length c2) l.length ([] ++ l) (by rfl) HO7.out (some ⟨wx.heap.size + 1, 0, none⟩) 1 1 [(⟨8, ec, ex, et, er, em, eq⟩ : Ev)] (by rfl) rfl (rde_of_block (cs := #[.int .i64 8, .int .i64 ec, .int .i64 ex, .int .i64 et, .int .i64 er, .int .i64 em, .int .i64 eq]) (T := 43) (fr := (0, 0)) (grown_keep HG7.out (by first | omega | (simp; done)) (by (repeat (first | rw [heap_drew] | rw [heap_push])); simp)) rfl) HB7.out.size (by have := HLN.out; omega) _ rfl ?_
                             intro A3 c3 w9 hown9 hgrow9
                             have HO9 := Lib.hid hown9
                             have HB9 := Lib.hid (show Below wx.heap.size wx w9 from HB7.out.grown hgrow9 HB7.out.size (fun k hk => (HO7.out.lt k hk).1))
                             clear hown9 hgrow9)
                          | (refine step_append_evs rfl _ _ rfl rfl wx.heap.size (.slice A2 l.length c2) l.length ([] ++ l) (by rfl) HO7.out (some ⟨wx.heap.size, 0, none⟩) 1 1 [(⟨8, ec, ex, et, er, em, eq⟩ : Ev)] (by rfl) rfl (rde_of_block (cs := #[.int .i64 8, .int .i64 ec, .int .i64 ex, .int .i64 et, .int .i64 er, .int .i64 em, .int .i64 eq]) (T := 43) (fr := (0, 0)) (grown_keep HG7.out (by first | omega | (simp; done)) (by (repeat (first | rw [heap_drew] | rw [heap_push])); simp)) rfl) HB7.out.size (by have := HLN.out; omega) _ rfl ?_
                             intro A3 c3 w9 hown9 hgrow9
                             have HO9 := Lib.hid hown9
                             have HB9 := Lib.hid (show Below wx.heap.size wx w9 from HB7.out.grown hgrow9 HB7.out.size (fun k hk => (HO7.out.lt k hk).1))
                             clear hown9 hgrow9)
                          | (refine step_append_evs rfl _ _ rfl rfl wx.heap.size (.slice A2 l.length c2) l.length ([] ++ l) (by rfl) (own_below HO7.out (by go_grown)) (some ⟨w7.heap.size, 0, none⟩) 1 1 [(⟨8, ec, ex, et, er, em, eq⟩ : Ev)] (by rfl) rfl (rde_of_block (cs := #[.int .i64 8, .int .i64 ec, .int .i64 ex, .int .i64 et, .int .i64 er, .int .i64 em, .int .i64 eq]) (T := 43) (fr := (0, 0)) (by (repeat (first | rw [heap_drew] | rw [heap_push])); simp; done) rfl) (by have := HB7.out.size; first | (simp; done) | (simp; omega) | omega) (by have := HLN.out; omega) _ rfl ?_
                             intro A3 c3 w9 hown9 hgrow9
                             have HO9 := Lib.hid hown9
                             have HB9 := Lib.hid (show Below wx.heap.size wx w9 from (HB7.out.trans (show Below wx.heap.size w7 _ from Below.mono (show Below w7.heap.size w7 _ by go_grown) HB7.out.size)).grown hgrow9 (by have := HB7.out.size; first | (simp; done) | (simp; omega) | omega) (fun k hk => (HO7.out.lt k hk).1))
                             clear hown9 hgrow9)
                        refine hK.out _ _ ?_
                        clear hK K
                        (try change wpAnyN _ _ _ _ _ _ _ _ (Act.put _ (some 95) _) _)
                        try (unfold Act.put; dsimp only)
                        refine wpAnyN_ready (rs := [6]) (by kernel_rfl) (by simp) ?_
                        refine AllReadyN.last rfl rfl (fun K hK => ?_) ?_
                        · go_simp
                          go_at_call 8
                          refine (check_good A3 (l.length + 1) c3 ([] ++ l ++ [(⟨8, ec, ex, et, er, em, eq⟩ : Ev)]) w9 (rde_own HO9.out).1 (rde_own HO9.out).2 (by have := HLN.out; omega) HPL.out).mono ?_
                          rintro e w10 ⟨rfl, hb10⟩
                          have HB10 := Lib.hid (HB9.out.trans (hb10.mono HB9.out.size))
                          clear hb10
                          dsimp only
                          refine hK.out _ _ ?_
                          clear hK K
                          (try change wpAnyN _ _ _ _ _ _ _ _ (Act.put _ (some 96) _) _)
                          try (unfold Act.put; dsimp only)
                          refine wpAnyN_ready (rs := [7]) (by kernel_rfl) (by simp) ?_
                          refine AllReadyN.last rfl rfl (fun K hK => ?_) ?_
                          · go_simp
                            refine hK.out _ _ ?_
                            clear hK K
                            (try change wpAnyN _ _ _ _ _ _ _ _ (Act.put _ (some 17) _) _)
                            try (unfold Act.put; dsimp only)
                            refine wpAnyN_done (by kernel_rfl) ?_ _
                            skip
                            have y0 := cell_keep HB10.out x0
                            clear x0 x1 x2 x3 x4 x5 x6
                            go_wp2
                            go_ret
                            exact ⟨rfl, HBF.out.trans (HB10.out.mono HBF.out.size)⟩
                          exact AllReadyN.nil
                        exact AllReadyN.nil
                      exact AllReadyN.nil
                    exact AllReadyN.nil
                  exact AllReadyN.nil
                exact AllReadyN.nil
            · have HPL := Lib.hid ho
              clear ho
              refine wp_region_N (S := (fun w' => w'.cell? ⟨w.heap.size, 0, none⟩ = some (.int .i64 ek) ∧ w'.cell? ⟨w.heap.size, 1, none⟩ = some (.int .i64 ec) ∧ w'.cell? ⟨w.heap.size, 2, none⟩ = some (.int .i64 ex) ∧ w'.cell? ⟨w.heap.size, 3, none⟩ = some (.int .i64 et) ∧ w'.cell? ⟨w.heap.size, 4, none⟩ = some (.int .i64 er) ∧ w'.cell? ⟨w.heap.size, 5, none⟩ = some (.int .i64 em) ∧ w'.cell? ⟨w.heap.size, 6, none⟩ = some (.int .i64 eq))) (fun i => !(i == 5 || i == 6 || i == 7)) (by kernel_rfl) ?_ (fun hHeld => ?_)
              · (try dsimp only)
                first
                  | (refine ⟨?_, ?_, ?_, ?_, ?_, ?_, ?_⟩ <;> with_reducible assumption)
                  | (refine ⟨cell_keep ?_ x0, cell_keep ?_ x1, cell_keep ?_ x2, cell_keep ?_ x3, cell_keep ?_ x4, cell_keep ?_ x5, cell_keep ?_ x6⟩ <;> first | exact HB7.out | (refine HB7.out.trans (Below.mono (show Below w7.heap.size w7 _ from ?_) HB7.out.size); go_grown; done) | (go_grown; done))
              refine wpAnyN_take [2, 5, 6, 7] (i := 1) (v := ?_) rfl (by kernel_rfl) (by kernel_rfl) (by kernel_rfl) (by kernel_rfl) (by kernel_rfl) (fun _ _ _ h => h) (Or.inl ⟨by first | kernel_rfl | rfl, ?_⟩) (by assumption) ?_
              rotate_left
              focus
                intro w hSw
                (try dsimp only at hSw)
                go_simp
                try with_reducible rfl
              (try change wpAnyN _ _ _ _ _ _ _ _ (Act.put _ (some 91) _) _)
              try (unfold Act.put; dsimp only)
              refine wpAnyN_take [4, 5, 6, 7] (i := 3) (v := ?_) rfl (by kernel_rfl) (by kernel_rfl) (by kernel_rfl) (by kernel_rfl) (by kernel_rfl) (fun _ _ _ h => h) (Or.inl ⟨by first | kernel_rfl | rfl, ?_⟩) (by assumption) ?_
              rotate_left
              focus
                intro w hSw
                (try dsimp only at hSw)
                go_simp
                try with_reducible rfl
              (try change wpAnyN _ _ _ _ _ _ _ _ (Act.put _ (some 93) _) _)
              try (unfold Act.put; dsimp only)
              refine wpAnyN_ready (rs := [0, 4]) (by kernel_rfl) (by simp) ?_
              refine AllReadyN.cons rfl (fun K hK => ?_) ?_
              · go_simp
                refine hK.out _ _ ?_ (fun hHeld => ?_)
                · (try dsimp only)
                  first
                    | (refine ⟨?_, ?_, ?_, ?_, ?_, ?_, ?_⟩ <;> with_reducible assumption)
                    | (refine ⟨cell_keep ?_ x0, cell_keep ?_ x1, cell_keep ?_ x2, cell_keep ?_ x3, cell_keep ?_ x4, cell_keep ?_ x5, cell_keep ?_ x6⟩ <;> first | exact HB7.out | (refine HB7.out.trans (Below.mono (show Below w7.heap.size w7 _ from ?_) HB7.out.size); go_grown; done) | (go_grown; done))
                clear hK K
                (try change wpAnyN _ _ _ _ _ _ _ _ (Act.put _ (some 90) _) _)
                try (unfold Act.put; dsimp only)
                refine wpAnyN_ready (rs := [2, 4]) (by kernel_rfl) (by simp) ?_
                refine AllReadyN.cons rfl (fun K hK => ?_) ?_
                · first
                    | (refine step_append_evs rfl _ _ rfl rfl wx.heap.size (.slice (some ⟨wx.heap.size, 0, none⟩) 0 0) 0 [] (by rfl) (own_at_empty (by (repeat (first | rw [heap_drew] | rw [heap_push])); simp; done) (Nat.le_refl _)) A l.length c l (by rfl) rfl (HRL.out.below (show Below wx.heap.size wx _ by go_grown) (Nat.le_refl _)) (by first | (simp; done) | (simp; omega)) (by have := HLN.out; omega) l.length (Nat.zero_add _) ?_
                       intro A2 c2 w7 hown7 hgrow7
                       have HO7 := Lib.hid hown7
                       have HB7 := Lib.hid (show Below wx.heap.size wx w7 from append_below hgrow7 (show Below wx.heap.size wx _ by go_grown) (Below.refl _ _) (Nat.le_refl _) (fun k hk => by simp [Value.ownBlock] at hk; omega))
                       have HG7 := Lib.hid hgrow7
                       clear hown7 hgrow7)
                    | (refine step_append_evs rfl _ _ rfl rfl wx.heap.size (.slice (some ⟨wx.heap.size + 1, 0, none⟩) 0 0) 0 [] (by rfl) (own_at_empty (by (repeat (first | rw [heap_drew] | rw [heap_push])); simp; done) (Nat.le_succ _)) A l.length c l (by rfl) rfl (HRL.out.below (show Below wx.heap.size wx _ by go_grown) (Nat.le_refl _)) (by first | (simp; done) | (simp; omega)) (by have := HLN.out; omega) l.length (Nat.zero_add _) ?_
                       intro A2 c2 w7 hown7 hgrow7
                       have HO7 := Lib.hid hown7
                       have HB7 := Lib.hid (show Below wx.heap.size wx w7 from append_below hgrow7 (show Below wx.heap.size wx _ by go_grown) (Below.refl _ _) (Nat.le_refl _) (fun k hk => by simp [Value.ownBlock] at hk; omega))
                       have HG7 := Lib.hid hgrow7
                       clear hown7 hgrow7)
                  refine hK.out _ _ ?_ (fun hHeld => ?_)
                  · (try dsimp only)
                    first
                      | (refine ⟨?_, ?_, ?_, ?_, ?_, ?_, ?_⟩ <;> with_reducible assumption)
                      | (refine ⟨cell_keep ?_ x0, cell_keep ?_ x1, cell_keep ?_ x2, cell_keep ?_ x3, cell_keep ?_ x4, cell_keep ?_ x5, cell_keep ?_ x6⟩ <;> first | exact HB7.out | (refine HB7.out.trans (Below.mono (show Below w7.heap.size w7 _ from ?_) HB7.out.size); go_grown; done) | (go_grown; done))
                  clear hK K
                  (try change wpAnyN _ _ _ _ _ _ _ _ (Act.put _ (some 92) _) _)
                  try (unfold Act.put; dsimp only)
                  refine wpAnyN_ready (rs := [4]) (by kernel_rfl) (by simp) ?_
                  refine AllReadyN.cons rfl (fun K hK => ?_) ?_
                  · go_simp
                    refine hK.out _ _ ?_ (fun hHeld => ?_)
                    · (try dsimp only)
                      first
                        | (refine ⟨?_, ?_, ?_, ?_, ?_, ?_, ?_⟩ <;> with_reducible assumption)
                        | (refine ⟨cell_keep ?_ x0, cell_keep ?_ x1, cell_keep ?_ x2, cell_keep ?_ x3, cell_keep ?_ x4, cell_keep ?_ x5, cell_keep ?_ x6⟩ <;> first | exact HB7.out | (refine HB7.out.trans (Below.mono (show Below w7.heap.size w7 _ from ?_) HB7.out.size); go_grown; done) | (go_grown; done))
                    clear hK K
                    (try change wpAnyN _ _ _ _ _ _ _ _ (Act.put _ (some 94) _) _)
                    try (unfold Act.put; dsimp only)
                    refine wpAnyN_ready (rs := [5]) (by kernel_rfl) (by simp) ?_
                    refine AllReadyN.last rfl rfl (fun K hK => ?_) ?_
                    · first
                        | (refine step_append_evs rfl _ _ rfl rfl wx.heap.size (.slice A2 l.length c2) l.length ([] ++ l) (by rfl) HO7.out (some ⟨wx.heap.size + 1, 0, none⟩) 1 1 [(⟨ek, ec, ex, et, er, em, eq⟩ : Ev)] (by rfl) rfl (rde_of_block (cs := #[.int .i64 ek, .int .i64 ec, .int .i64 ex, .int .i64 et, .int .i64 er, .int .i64 em, .int .i64 eq]) (T := 43) (fr := (0, 0)) (grown_keep HG7.out (by first | omega | (simp; done)) (by (repeat (first | rw [heap_drew] | rw [heap_push])); simp)) rfl) HB7.out.size (by have := HLN.out; omega) _ rfl ?_
                           intro A3 c3 w9 hown9 hgrow9
                           have HO9 := Lib.hid hown9
                           have HB9 := Lib.hid (show Below wx.heap.size wx w9 from HB7.out.grown hgrow9 HB7.out.size (fun k hk => (HO7.out.lt k hk).1))
                           clear hown9 hgrow9)
                        | (refine step_append_evs rfl _ _ rfl rfl wx.heap.size (.slice A2 l.length c2) l.length ([] ++ l) (by rfl) HO7.out (some ⟨wx.heap.size, 0, none⟩) 1 1 [(⟨ek, ec, ex, et, er, em, eq⟩ : Ev)] (by rfl) rfl (rde_of_block (cs := #[.int .i64 ek, .int .i64 ec, .int .i64 ex, .int .i64 et, .int .i64 er, .int .i64 em, .int .i64 eq]) (T := 43) (fr := (0, 0)) (grown_keep HG7.out (by first | omega | (simp; done)) (by (repeat (first | rw [heap_drew] | rw [heap_push])); simp)) rfl) HB7.out.size (by have := HLN.out; omega) _ rfl ?_
                           intro A3 c3 w9 hown9 hgrow9
                           have HO9 := Lib.hid hown9
                           have HB9 := Lib.hid (show Below wx.heap.size wx w9 from HB7.out.grown hgrow9 HB7.out.size (fun k hk => (HO7.out.lt k hk).1))
                           clear hown9 hgrow9)
                        | (refine step_append_evs rfl _ _ rfl rfl wx.heap.size (.slice A2 l.length c2) l.length ([] ++ l) (by rfl) (own_below HO7.out (by go_grown)) (some ⟨w7.heap.size, 0, none⟩) 1 1 [(⟨ek, ec, ex, et, er, em, eq⟩ : Ev)] (by rfl) rfl (rde_of_block (cs := #[.int .i64 ek, .int .i64 ec, .int .i64 ex, .int .i64 et, .int .i64 er, .int .i64 em, .int .i64 eq]) (T := 43) (fr := (0, 0)) (by (repeat (first | rw [heap_drew] | rw [heap_push])); simp; done) rfl) (by have := HB7.out.size; first | (simp; done) | (simp; omega) | omega) (by have := HLN.out; omega) _ rfl ?_
                           intro A3 c3 w9 hown9 hgrow9
                           have HO9 := Lib.hid hown9
                           have HB9 := Lib.hid (show Below wx.heap.size wx w9 from (HB7.out.trans (show Below wx.heap.size w7 _ from Below.mono (show Below w7.heap.size w7 _ by go_grown) HB7.out.size)).grown hgrow9 (by have := HB7.out.size; first | (simp; done) | (simp; omega) | omega) (fun k hk => (HO7.out.lt k hk).1))
                           clear hown9 hgrow9)
                      refine hK.out _ _ ?_
                      clear hK K
                      (try change wpAnyN _ _ _ _ _ _ _ _ (Act.put _ (some 95) _) _)
                      try (unfold Act.put; dsimp only)
                      refine wpAnyN_ready (rs := [6]) (by kernel_rfl) (by simp) ?_
                      refine AllReadyN.last rfl rfl (fun K hK => ?_) ?_
                      · go_simp
                        go_at_call 8
                        refine (check_bad A3 (l.length + 1) c3 ([] ++ l ++ [(⟨ek, ec, ex, et, er, em, eq⟩ : Ev)]) w9 (rde_own HO9.out).1 (rde_own HO9.out).2 (by have := HLN.out; omega) (i := pp) (k := kk) HPL.out).mono ?_
                        rintro e w10 ⟨⟨b10, rfl, -⟩, hb10⟩
                        have HB10 := Lib.hid (HB9.out.trans (hb10.mono HB9.out.size))
                        clear hb10
                        dsimp only
                        refine hK.out _ _ ?_
                        clear hK K
                        (try change wpAnyN _ _ _ _ _ _ _ _ (Act.put _ (some 96) _) _)
                        try (unfold Act.put; dsimp only)
                        refine wpAnyN_ready (rs := [7]) (by kernel_rfl) (by simp) ?_
                        refine AllReadyN.last rfl rfl (fun K hK => ?_) ?_
                        · go_simp
                          refine hK.out _ _ ?_
                          clear hK K
                          (try change wpAnyN _ _ _ _ _ _ _ _ (Act.put _ (some 17) _) _)
                          try (unfold Act.put; dsimp only)
                          refine wpAnyN_done (by kernel_rfl) ?_ _
                          skip
                          have y0 := cell_keep HB10.out x0
                          clear x0 x1 x2 x3 x4 x5 x6
                          go_wp2
                          go_ret
                          exact ⟨rfl, HBF.out.trans (HB10.out.mono HBF.out.size)⟩
                        exact AllReadyN.nil
                      exact AllReadyN.nil
                    exact AllReadyN.nil
                  exact AllReadyN.nil
                refine AllReadyN.cons rfl (fun K hK => ?_) ?_
                · go_simp
                  refine hK.out _ _ ?_ (fun hHeld => ?_)
                  · (try dsimp only)
                    first
                      | (refine ⟨?_, ?_, ?_, ?_, ?_, ?_, ?_⟩ <;> with_reducible assumption)
                      | (refine ⟨cell_keep ?_ x0, cell_keep ?_ x1, cell_keep ?_ x2, cell_keep ?_ x3, cell_keep ?_ x4, cell_keep ?_ x5, cell_keep ?_ x6⟩ <;> first | exact HB7.out | (refine HB7.out.trans (Below.mono (show Below w7.heap.size w7 _ from ?_) HB7.out.size); go_grown; done) | (go_grown; done))
                  clear hK K
                  (try change wpAnyN _ _ _ _ _ _ _ _ (Act.put _ (some 94) _) _)
                  try (unfold Act.put; dsimp only)
                  refine wpAnyN_ready (rs := [2]) (by kernel_rfl) (by simp) ?_
                  refine AllReadyN.cons rfl (fun K hK => ?_) ?_
                  · first
                      | (refine step_append_evs rfl _ _ rfl rfl wx.heap.size (.slice (some ⟨wx.heap.size, 0, none⟩) 0 0) 0 [] (by rfl) (own_at_empty (by (repeat (first | rw [heap_drew] | rw [heap_push])); simp; done) (Nat.le_refl _)) A l.length c l (by rfl) rfl (HRL.out.below (show Below wx.heap.size wx _ by go_grown) (Nat.le_refl _)) (by first | (simp; done) | (simp; omega)) (by have := HLN.out; omega) l.length (Nat.zero_add _) ?_
                         intro A2 c2 w7 hown7 hgrow7
                         have HO7 := Lib.hid hown7
                         have HB7 := Lib.hid (show Below wx.heap.size wx w7 from append_below hgrow7 (show Below wx.heap.size wx _ by go_grown) (Below.refl _ _) (Nat.le_refl _) (fun k hk => by simp [Value.ownBlock] at hk; omega))
                         have HG7 := Lib.hid hgrow7
                         clear hown7 hgrow7)
                      | (refine step_append_evs rfl _ _ rfl rfl wx.heap.size (.slice (some ⟨wx.heap.size + 1, 0, none⟩) 0 0) 0 [] (by rfl) (own_at_empty (by (repeat (first | rw [heap_drew] | rw [heap_push])); simp; done) (Nat.le_succ _)) A l.length c l (by rfl) rfl (HRL.out.below (show Below wx.heap.size wx _ by go_grown) (Nat.le_refl _)) (by first | (simp; done) | (simp; omega)) (by have := HLN.out; omega) l.length (Nat.zero_add _) ?_
                         intro A2 c2 w7 hown7 hgrow7
                         have HO7 := Lib.hid hown7
                         have HB7 := Lib.hid (show Below wx.heap.size wx w7 from append_below hgrow7 (show Below wx.heap.size wx _ by go_grown) (Below.refl _ _) (Nat.le_refl _) (fun k hk => by simp [Value.ownBlock] at hk; omega))
                         have HG7 := Lib.hid hgrow7
                         clear hown7 hgrow7)
                    refine hK.out _ _ ?_ (fun hHeld => ?_)
                    · (try dsimp only)
                      first
                        | (refine ⟨?_, ?_, ?_, ?_, ?_, ?_, ?_⟩ <;> with_reducible assumption)
                        | (refine ⟨cell_keep ?_ x0, cell_keep ?_ x1, cell_keep ?_ x2, cell_keep ?_ x3, cell_keep ?_ x4, cell_keep ?_ x5, cell_keep ?_ x6⟩ <;> first | exact HB7.out | (refine HB7.out.trans (Below.mono (show Below w7.heap.size w7 _ from ?_) HB7.out.size); go_grown; done) | (go_grown; done))
                    clear hK K
                    (try change wpAnyN _ _ _ _ _ _ _ _ (Act.put _ (some 92) _) _)
                    try (unfold Act.put; dsimp only)
                    refine wpAnyN_ready (rs := [5]) (by kernel_rfl) (by simp) ?_
                    refine AllReadyN.last rfl rfl (fun K hK => ?_) ?_
                    · first
                        | (refine step_append_evs rfl _ _ rfl rfl wx.heap.size (.slice A2 l.length c2) l.length ([] ++ l) (by rfl) HO7.out (some ⟨wx.heap.size + 1, 0, none⟩) 1 1 [(⟨ek, ec, ex, et, er, em, eq⟩ : Ev)] (by rfl) rfl (rde_of_block (cs := #[.int .i64 ek, .int .i64 ec, .int .i64 ex, .int .i64 et, .int .i64 er, .int .i64 em, .int .i64 eq]) (T := 43) (fr := (0, 0)) (grown_keep HG7.out (by first | omega | (simp; done)) (by (repeat (first | rw [heap_drew] | rw [heap_push])); simp)) rfl) HB7.out.size (by have := HLN.out; omega) _ rfl ?_
                           intro A3 c3 w9 hown9 hgrow9
                           have HO9 := Lib.hid hown9
                           have HB9 := Lib.hid (show Below wx.heap.size wx w9 from HB7.out.grown hgrow9 HB7.out.size (fun k hk => (HO7.out.lt k hk).1))
                           clear hown9 hgrow9)
                        | (refine step_append_evs rfl _ _ rfl rfl wx.heap.size (.slice A2 l.length c2) l.length ([] ++ l) (by rfl) HO7.out (some ⟨wx.heap.size, 0, none⟩) 1 1 [(⟨ek, ec, ex, et, er, em, eq⟩ : Ev)] (by rfl) rfl (rde_of_block (cs := #[.int .i64 ek, .int .i64 ec, .int .i64 ex, .int .i64 et, .int .i64 er, .int .i64 em, .int .i64 eq]) (T := 43) (fr := (0, 0)) (grown_keep HG7.out (by first | omega | (simp; done)) (by (repeat (first | rw [heap_drew] | rw [heap_push])); simp)) rfl) HB7.out.size (by have := HLN.out; omega) _ rfl ?_
                           intro A3 c3 w9 hown9 hgrow9
                           have HO9 := Lib.hid hown9
                           have HB9 := Lib.hid (show Below wx.heap.size wx w9 from HB7.out.grown hgrow9 HB7.out.size (fun k hk => (HO7.out.lt k hk).1))
                           clear hown9 hgrow9)
                        | (refine step_append_evs rfl _ _ rfl rfl wx.heap.size (.slice A2 l.length c2) l.length ([] ++ l) (by rfl) (own_below HO7.out (by go_grown)) (some ⟨w7.heap.size, 0, none⟩) 1 1 [(⟨ek, ec, ex, et, er, em, eq⟩ : Ev)] (by rfl) rfl (rde_of_block (cs := #[.int .i64 ek, .int .i64 ec, .int .i64 ex, .int .i64 et, .int .i64 er, .int .i64 em, .int .i64 eq]) (T := 43) (fr := (0, 0)) (by (repeat (first | rw [heap_drew] | rw [heap_push])); simp; done) rfl) (by have := HB7.out.size; first | (simp; done) | (simp; omega) | omega) (by have := HLN.out; omega) _ rfl ?_
                           intro A3 c3 w9 hown9 hgrow9
                           have HO9 := Lib.hid hown9
                           have HB9 := Lib.hid (show Below wx.heap.size wx w9 from (HB7.out.trans (show Below wx.heap.size w7 _ from Below.mono (show Below w7.heap.size w7 _ by go_grown) HB7.out.size)).grown hgrow9 (by have := HB7.out.size; first | (simp; done) | (simp; omega) | omega) (fun k hk => (HO7.out.lt k hk).1))
                           clear hown9 hgrow9)
                      refine hK.out _ _ ?_
                      clear hK K
                      (try change wpAnyN _ _ _ _ _ _ _ _ (Act.put _ (some 95) _) _)
                      try (unfold Act.put; dsimp only)
                      refine wpAnyN_ready (rs := [6]) (by kernel_rfl) (by simp) ?_
                      refine AllReadyN.last rfl rfl (fun K hK => ?_) ?_
                      · go_simp
                        go_at_call 8
                        refine (check_bad A3 (l.length + 1) c3 ([] ++ l ++ [(⟨ek, ec, ex, et, er, em, eq⟩ : Ev)]) w9 (rde_own HO9.out).1 (rde_own HO9.out).2 (by have := HLN.out; omega) (i := pp) (k := kk) HPL.out).mono ?_
                        rintro e w10 ⟨⟨b10, rfl, -⟩, hb10⟩
                        have HB10 := Lib.hid (HB9.out.trans (hb10.mono HB9.out.size))
                        clear hb10
                        dsimp only
                        refine hK.out _ _ ?_
                        clear hK K
                        (try change wpAnyN _ _ _ _ _ _ _ _ (Act.put _ (some 96) _) _)
                        try (unfold Act.put; dsimp only)
                        refine wpAnyN_ready (rs := [7]) (by kernel_rfl) (by simp) ?_
                        refine AllReadyN.last rfl rfl (fun K hK => ?_) ?_
                        · go_simp
                          refine hK.out _ _ ?_
                          clear hK K
                          (try change wpAnyN _ _ _ _ _ _ _ _ (Act.put _ (some 17) _) _)
                          try (unfold Act.put; dsimp only)
                          refine wpAnyN_done (by kernel_rfl) ?_ _
                          skip
                          have y0 := cell_keep HB10.out x0
                          clear x0 x1 x2 x3 x4 x5 x6
                          go_wp2
                          go_ret
                          exact ⟨rfl, HBF.out.trans (HB10.out.mono HBF.out.size)⟩
                        exact AllReadyN.nil
                      exact AllReadyN.nil
                    exact AllReadyN.nil
                  exact AllReadyN.nil
                exact AllReadyN.nil
              refine AllReadyN.cons rfl (fun K hK => ?_) ?_
              · go_simp
                refine hK.out _ _ ?_ (fun hHeld => ?_)
                · (try dsimp only)
                  first
                    | (refine ⟨?_, ?_, ?_, ?_, ?_, ?_, ?_⟩ <;> with_reducible assumption)
                    | (refine ⟨cell_keep ?_ x0, cell_keep ?_ x1, cell_keep ?_ x2, cell_keep ?_ x3, cell_keep ?_ x4, cell_keep ?_ x5, cell_keep ?_ x6⟩ <;> first | exact HB7.out | (refine HB7.out.trans (Below.mono (show Below w7.heap.size w7 _ from ?_) HB7.out.size); go_grown; done) | (go_grown; done))
                clear hK K
                (try change wpAnyN _ _ _ _ _ _ _ _ (Act.put _ (some 94) _) _)
                try (unfold Act.put; dsimp only)
                refine wpAnyN_ready (rs := [0]) (by kernel_rfl) (by simp) ?_
                refine AllReadyN.cons rfl (fun K hK => ?_) ?_
                · go_simp
                  refine hK.out _ _ ?_ (fun hHeld => ?_)
                  · (try dsimp only)
                    first
                      | (refine ⟨?_, ?_, ?_, ?_, ?_, ?_, ?_⟩ <;> with_reducible assumption)
                      | (refine ⟨cell_keep ?_ x0, cell_keep ?_ x1, cell_keep ?_ x2, cell_keep ?_ x3, cell_keep ?_ x4, cell_keep ?_ x5, cell_keep ?_ x6⟩ <;> first | exact HB7.out | (refine HB7.out.trans (Below.mono (show Below w7.heap.size w7 _ from ?_) HB7.out.size); go_grown; done) | (go_grown; done))
                  clear hK K
                  (try change wpAnyN _ _ _ _ _ _ _ _ (Act.put _ (some 90) _) _)
                  try (unfold Act.put; dsimp only)
                  refine wpAnyN_ready (rs := [2]) (by kernel_rfl) (by simp) ?_
                  refine AllReadyN.cons rfl (fun K hK => ?_) ?_
                  · first
                      | (refine step_append_evs rfl _ _ rfl rfl wx.heap.size (.slice (some ⟨wx.heap.size, 0, none⟩) 0 0) 0 [] (by rfl) (own_at_empty (by (repeat (first | rw [heap_drew] | rw [heap_push])); simp; done) (Nat.le_refl _)) A l.length c l (by rfl) rfl (HRL.out.below (show Below wx.heap.size wx _ by go_grown) (Nat.le_refl _)) (by first | (simp; done) | (simp; omega)) (by have := HLN.out; omega) l.length (Nat.zero_add _) ?_
                         intro A2 c2 w7 hown7 hgrow7
                         have HO7 := Lib.hid hown7
                         have HB7 := Lib.hid (show Below wx.heap.size wx w7 from append_below hgrow7 (show Below wx.heap.size wx _ by go_grown) (Below.refl _ _) (Nat.le_refl _) (fun k hk => by simp [Value.ownBlock] at hk; omega))
                         have HG7 := Lib.hid hgrow7
                         clear hown7 hgrow7)
                      | (refine step_append_evs rfl _ _ rfl rfl wx.heap.size (.slice (some ⟨wx.heap.size + 1, 0, none⟩) 0 0) 0 [] (by rfl) (own_at_empty (by (repeat (first | rw [heap_drew] | rw [heap_push])); simp; done) (Nat.le_succ _)) A l.length c l (by rfl) rfl (HRL.out.below (show Below wx.heap.size wx _ by go_grown) (Nat.le_refl _)) (by first | (simp; done) | (simp; omega)) (by have := HLN.out; omega) l.length (Nat.zero_add _) ?_
                         intro A2 c2 w7 hown7 hgrow7
                         have HO7 := Lib.hid hown7
                         have HB7 := Lib.hid (show Below wx.heap.size wx w7 from append_below hgrow7 (show Below wx.heap.size wx _ by go_grown) (Below.refl _ _) (Nat.le_refl _) (fun k hk => by simp [Value.ownBlock] at hk; omega))
                         have HG7 := Lib.hid hgrow7
                         clear hown7 hgrow7)
                    refine hK.out _ _ ?_ (fun hHeld => ?_)
                    · (try dsimp only)
                      first
                        | (refine ⟨?_, ?_, ?_, ?_, ?_, ?_, ?_⟩ <;> with_reducible assumption)
                        | (refine ⟨cell_keep ?_ x0, cell_keep ?_ x1, cell_keep ?_ x2, cell_keep ?_ x3, cell_keep ?_ x4, cell_keep ?_ x5, cell_keep ?_ x6⟩ <;> first | exact HB7.out | (refine HB7.out.trans (Below.mono (show Below w7.heap.size w7 _ from ?_) HB7.out.size); go_grown; done) | (go_grown; done))
                    clear hK K
                    (try change wpAnyN _ _ _ _ _ _ _ _ (Act.put _ (some 92) _) _)
                    try (unfold Act.put; dsimp only)
                    refine wpAnyN_ready (rs := [5]) (by kernel_rfl) (by simp) ?_
                    refine AllReadyN.last rfl rfl (fun K hK => ?_) ?_
                    · first
                        | (refine step_append_evs rfl _ _ rfl rfl wx.heap.size (.slice A2 l.length c2) l.length ([] ++ l) (by rfl) HO7.out (some ⟨wx.heap.size + 1, 0, none⟩) 1 1 [(⟨ek, ec, ex, et, er, em, eq⟩ : Ev)] (by rfl) rfl (rde_of_block (cs := #[.int .i64 ek, .int .i64 ec, .int .i64 ex, .int .i64 et, .int .i64 er, .int .i64 em, .int .i64 eq]) (T := 43) (fr := (0, 0)) (grown_keep HG7.out (by first | omega | (simp; done)) (by (repeat (first | rw [heap_drew] | rw [heap_push])); simp)) rfl) HB7.out.size (by have := HLN.out; omega) _ rfl ?_
                           intro A3 c3 w9 hown9 hgrow9
                           have HO9 := Lib.hid hown9
                           have HB9 := Lib.hid (show Below wx.heap.size wx w9 from HB7.out.grown hgrow9 HB7.out.size (fun k hk => (HO7.out.lt k hk).1))
                           clear hown9 hgrow9)
                        | (refine step_append_evs rfl _ _ rfl rfl wx.heap.size (.slice A2 l.length c2) l.length ([] ++ l) (by rfl) HO7.out (some ⟨wx.heap.size, 0, none⟩) 1 1 [(⟨ek, ec, ex, et, er, em, eq⟩ : Ev)] (by rfl) rfl (rde_of_block (cs := #[.int .i64 ek, .int .i64 ec, .int .i64 ex, .int .i64 et, .int .i64 er, .int .i64 em, .int .i64 eq]) (T := 43) (fr := (0, 0)) (grown_keep HG7.out (by first | omega | (simp; done)) (by (repeat (first | rw [heap_drew] | rw [heap_push])); simp)) rfl) HB7.out.size (by have := HLN.out; omega) _ rfl ?_
                           intro A3 c3 w9 hown9 hgrow9
                           have HO9 := Lib.hid hown9
                           have HB9 := Lib.hid (show Below wx.heap.size wx w9 from HB7.out.grown hgrow9 HB7.out.size (fun k hk => (HO7.out.lt k hk).1))
                           clear hown9 hgrow9)
                        | (refine step_append_evs rfl _ _ rfl rfl wx.heap.size (.slice A2 l.length c2) l.length ([] ++ l) (by rfl) (own_below HO7.out (by go_grown)) (some ⟨w7.heap.size, 0, none⟩) 1 1 [(⟨ek, ec, ex, et, er, em, eq⟩ : Ev)] (by rfl) rfl (rde_of_block (cs := #[.int .i64 ek, .int .i64 ec, .int .i64 ex, .int .i64 et, .int .i64 er, .int .i64 em, .int .i64 eq]) (T := 43) (fr := (0, 0)) (by (repeat (first | rw [heap_drew] | rw [heap_push])); simp; done) rfl) (by have := HB7.out.size; first | (simp; done) | (simp; omega) | omega) (by have := HLN.out; omega) _ rfl ?_
                           intro A3 c3 w9 hown9 hgrow9
                           have HO9 := Lib.hid hown9
                           have HB9 := Lib.hid (show Below wx.heap.size wx w9 from (HB7.out.trans (show Below wx.heap.size w7 _ from Below.mono (show Below w7.heap.size w7 _ by go_grown) HB7.out.size)).grown hgrow9 (by have := HB7.out.size; first | (simp; done) | (simp; omega) | omega) (fun k hk => (HO7.out.lt k hk).1))
                           clear hown9 hgrow9)
                      refine hK.out _ _ ?_
                      clear hK K
                      (try change wpAnyN _ _ _ _ _ _ _ _ (Act.put _ (some 95) _) _)
                      try (unfold Act.put; dsimp only)
                      refine wpAnyN_ready (rs := [6]) (by kernel_rfl) (by simp) ?_
                      refine AllReadyN.last rfl rfl (fun K hK => ?_) ?_
                      · go_simp
                        go_at_call 8
                        refine (check_bad A3 (l.length + 1) c3 ([] ++ l ++ [(⟨ek, ec, ex, et, er, em, eq⟩ : Ev)]) w9 (rde_own HO9.out).1 (rde_own HO9.out).2 (by have := HLN.out; omega) (i := pp) (k := kk) HPL.out).mono ?_
                        rintro e w10 ⟨⟨b10, rfl, -⟩, hb10⟩
                        have HB10 := Lib.hid (HB9.out.trans (hb10.mono HB9.out.size))
                        clear hb10
                        dsimp only
                        refine hK.out _ _ ?_
                        clear hK K
                        (try change wpAnyN _ _ _ _ _ _ _ _ (Act.put _ (some 96) _) _)
                        try (unfold Act.put; dsimp only)
                        refine wpAnyN_ready (rs := [7]) (by kernel_rfl) (by simp) ?_
                        refine AllReadyN.last rfl rfl (fun K hK => ?_) ?_
                        · go_simp
                          refine hK.out _ _ ?_
                          clear hK K
                          (try change wpAnyN _ _ _ _ _ _ _ _ (Act.put _ (some 17) _) _)
                          try (unfold Act.put; dsimp only)
                          refine wpAnyN_done (by kernel_rfl) ?_ _
                          skip
                          have y0 := cell_keep HB10.out x0
                          clear x0 x1 x2 x3 x4 x5 x6
                          go_wp2
                          go_ret
                          exact ⟨rfl, HBF.out.trans (HB10.out.mono HBF.out.size)⟩
                        exact AllReadyN.nil
                      exact AllReadyN.nil
                    exact AllReadyN.nil
                  exact AllReadyN.nil
                exact AllReadyN.nil
              exact AllReadyN.nil
  · have h60' : 60 < (n : Int) := by omega
    go_wp2_with fail
    refine HAL.out.mono ?_
    rintro e w1 ⟨rfl, hb1⟩
    go_wp2
    go_ret
    exact ⟨rfl, HBA.out.trans (hb1.mono HBA.out.size)⟩
end Go.Proofs.YtggkohkngockoaaDoor

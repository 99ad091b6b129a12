/-
  errors.As at the target **api.Fault, errors.Is and catchboltlaw01.Code at a fault, catchboltlaw02.At: over nil, an error number, and a fault of an error number. No other conditions.
-/
import Derived.Test.YtonphamahnagfaaDoorCode
import Derived.Below
namespace Go.Proofs.YtonphamahnagfaaDoor
open Go.ChangeShapes Go.WideShapes Go.ChangeAt Go.RowKit Go.Extern.Stop Go.Stop Go.Extern

/-- errors.As(nil, target) -/
theorem as_nil (t : Value) (w : World) :
    Calls Tryd.prog 24 #[.nilIface, t] w fun e w' => e = .returned (.bool false) ∧ w = w' := by
  go_enter Tryd.func24, Tryd.ntmps24
  go_wp2
  go_ret
  exact ⟨rfl, rfl⟩

theorem Tryd.asValueOfT (t : Addr) (w : World) : (ReflectliteValue.unpack (.iface 53 (.pointer (some t)))).run Tryd.prog w
    = .ok (.agg #[.pointer (some ⟨4, 53, none⟩), .pointer (some ⟨w.heap.size, 0, none⟩), .int .u64 150]) (w.alloc (.cells #[.pointer (some t)] 53)) := by kernel_rfl
theorem Tryd.asTypeT (a : Addr) (w : World) : (ReflectliteValue.methodAny (ReflectliteValue.valueError "reflectlite.Value.Type" 0) (fun t _ _ _ => ReflectliteType.toType t) #[.agg #[.pointer (some ⟨4, 53, none⟩), .pointer (some a), .int .u64 150]]).run Tryd.prog w
    = .ok (.iface 87 (.agg #[.pointer (some ⟨4, 53, none⟩)])) w := by kernel_rfl
theorem Tryd.asKindT (w : World) : ((ReflectliteType.abiMethod fun t => (fun a : Nat => Value.int IntKind.u8 (a : Int)) <$> Rtype.kind t) #[.pointer (some ⟨4, 53, none⟩)]).run Tryd.prog w = .ok (.int .u8 22) w := by kernel_rfl
theorem Tryd.asKindF (w : World) : ((ReflectliteType.abiMethod fun t => (fun a : Nat => Value.int IntKind.u8 (a : Int)) <$> Rtype.kind t) #[.pointer (some ⟨4, 51, none⟩)]).run Tryd.prog w = .ok (.int .u8 22) w := by kernel_rfl

theorem rlm (z : Sem Value) (f : TypeId → Addr → Nat → Nat → Sem Value) (v : Value) :
    ReflectliteValue.method z f #[v] = (do match ← ReflectliteValue.parts v with | none => z | some (t, a, fl) => f t a fl (fl % 32)) := rfl
theorem Tryd.asPartsT (a : Addr) (w : World) : (ReflectliteValue.parts (.agg #[.pointer (some ⟨4, 53, none⟩), .pointer (some a), .int .u64 150])).run Tryd.prog w = .ok (some (53, a, 150)) w := by kernel_rfl
theorem Tryd.asIsNilT (a p : Addr) (W : World) (ha : W.cell? a = some (.pointer (some p))) :
    (ReflectliteValue.method (ReflectliteValue.valueError "reflectlite.Value.IsNil" 0) ReflectliteValue.isNil #[.agg #[.pointer (some ⟨4, 53, none⟩), .pointer (some a), .int .u64 150]]).run Tryd.prog W = .ok (.bool false) W := by
  rw [rlm]
  simp only [Sem.run_bind, Tryd.asPartsT, Result.andThen]
  simp [ReflectliteValue.isNil, loadVar, isAgg, underlying, Tryd.underlying53, ha, Result.andThen]
theorem Tryd.asElemT (w : World) : (ReflectliteType.method ReflectliteType.elem #[.agg #[.pointer (some ⟨4, 53, none⟩)]]).run Tryd.prog w = .ok (.iface 87 (.agg #[.pointer (some ⟨4, 51, none⟩)])) w := by kernel_rfl
theorem Tryd.asImplF (w : World) : (ReflectliteType.relation "Implements" ReflectliteType.implements_ #[.agg #[.pointer (some ⟨4, 51, none⟩)], .iface 87 (.agg #[.pointer (some ⟨4, 26, none⟩)])]).run Tryd.prog w = .ok (.bool true) w := by kernel_rfl
theorem Tryd.asTypeOfF (v : Value) (w : World) : (ReflectliteType.typeOf #[.iface 51 v]).run Tryd.prog w = .ok (.iface 87 (.agg #[.pointer (some ⟨4, 51, none⟩)])) w := by kernel_rfl
theorem Tryd.asAssF (w : World) : (ReflectliteType.relation "AssignableTo" ReflectliteType.assignableTo #[.agg #[.pointer (some ⟨4, 51, none⟩)], .iface 87 (.agg #[.pointer (some ⟨4, 51, none⟩)])]).run Tryd.prog w = .ok (.bool true) w := by kernel_rfl
theorem Tryd.asAssE (w : World) : (ReflectliteType.relation "AssignableTo" ReflectliteType.assignableTo #[.agg #[.pointer (some ⟨4, 57, none⟩)], .iface 87 (.agg #[.pointer (some ⟨4, 51, none⟩)])]).run Tryd.prog w = .ok (.bool false) w := by kernel_rfl
theorem Tryd.asValueOfF (e : Addr) (w : World) : (ReflectliteValue.unpack (.iface 51 (.pointer (some e)))).run Tryd.prog w
    = .ok (.agg #[.pointer (some ⟨4, 51, none⟩), .pointer (some ⟨w.heap.size, 0, none⟩), .int .u64 150]) (w.alloc (.cells #[.pointer (some e)] 51)) := by kernel_rfl
theorem Tryd.asElemOfT (w : World) : (Rtype.elem? 53).run Tryd.prog w = .ok (some 51) w := by kernel_rfl
theorem Tryd.asMkF (p : Addr) (w : World) : (ReflectliteValue.mk 51 p ReflectliteValue.flagAddr).run Tryd.prog w = .ok (.agg #[.pointer (some ⟨4, 51, none⟩), .pointer (some p), .int .u64 406]) w := by kernel_rfl
theorem Tryd.asElemV (a p : Addr) (W : World) (ha : W.cell? a = some (.pointer (some p))) :
    (ReflectliteValue.method (ReflectliteValue.valueError "reflectlite.Value.Elem" 0) ReflectliteValue.elem #[.agg #[.pointer (some ⟨4, 53, none⟩), .pointer (some a), .int .u64 150]]).run Tryd.prog W
      = .ok (.agg #[.pointer (some ⟨4, 51, none⟩), .pointer (some p), .int .u64 406]) W := by
  rw [rlm]
  simp only [Sem.run_bind, Tryd.asPartsT, Result.andThen]
  simp [ReflectliteValue.elem, loadVar, isAgg, underlying, Tryd.underlying53, ha, Result.andThen, Tryd.asElemOfT, Tryd.asMkF]
theorem rls (v x : Value) : ReflectliteValue.set #[v, x] = (do
    let (some (dst, a, fl), some (src, b, _)) := (← ReflectliteValue.parts v, ← ReflectliteValue.parts x)
      | unsupported (.noEntry "extern/(internal/reflectlite.Value).Set.zeroValue")
    if fl / ReflectliteValue.flagAddr % 2 == 0 then unsupported (.noEntry "extern/(internal/reflectlite.Value).Set.unaddressable")
    let val ← loadVar src b
    if ← Rtype.directlyAssignable dst src then storeVar dst a val
    else if ← Rtype.implements dst src then
      if (← Rtype.kind src) == 20 then
        match val with
        | .nilIface => unsupported (.noEntry "extern/reflectlite: a nil value of one interface type handed on as a value of another")
        | _ => storeVar dst a val
      else storeVar dst a (.iface src val)
    else panicString ("reflectlite.Set: value of type " ++ (← Rtype.spelt src) ++ " is not assignable to type " ++ (← Rtype.spelt dst))
    pure (.tuple #[])) := rfl
theorem Tryd.asPartsA (a : Addr) (w : World) : (ReflectliteValue.parts (.agg #[.pointer (some ⟨4, 51, none⟩), .pointer (some a), .int .u64 406])).run Tryd.prog w = .ok (some (51, a, 406)) w := by kernel_rfl
theorem Tryd.asPartsF (a : Addr) (w : World) : (ReflectliteValue.parts (.agg #[.pointer (some ⟨4, 51, none⟩), .pointer (some a), .int .u64 150])).run Tryd.prog w = .ok (some (51, a, 150)) w := by kernel_rfl
theorem Tryd.asDirect (w : World) : (Rtype.directlyAssignable 51 51).run Tryd.prog w = .ok true w := by kernel_rfl
theorem Tryd.asSet (ta b e : Addr) (old : Value) (W : World) (hb : W.cell? b = some (.pointer (some e))) (ht : W.cell? ta = some old) (hf : W.frozen? ta = false) :
    (ReflectliteValue.set #[.agg #[.pointer (some ⟨4, 51, none⟩), .pointer (some ta), .int .u64 406], .agg #[.pointer (some ⟨4, 51, none⟩), .pointer (some b), .int .u64 150]]).run Tryd.prog W
      = .ok (.tuple #[]) (W.setCell ta (.pointer (some e))) := by
  rw [rls]
  simp only [Sem.run_bind, Tryd.asPartsA, Tryd.asPartsF, Result.andThen]
  simp [ReflectliteValue.flagAddr, loadVar, isAgg, underlying, Tryd.underlying51, hb, Result.andThen, Tryd.asDirect, storeVar, Value.cells, storeCells, Addr.add]
  rw [run_store Tryd.prog W ta _ _ (by rfl)]
  simp [ht, hf]
theorem Tryd.asNoE (v : Value) (xT : TypeId) (w : World) : (Instr.typeAssert (.iface 57 v) xT 91 true).run Tryd.prog w = .ok (.tuple #[.nilIface, .bool false]) w := run_typeAssert_lacksB Tryd.underlying91 (by kernel_rfl) (by kernel_rfl) v xT w

/-- what the variable errors.errorType holds -/
def ErrT (w : World) : Prop := w.cell? ⟨0, 0, none⟩ = some (.iface 87 (.agg #[.pointer (some ⟨4, 26, none⟩)]))
theorem ErrT.lt {w : World} (h : ErrT w) : 0 < w.heap.size := by
  unfold ErrT at h
  rcases Nat.lt_or_ge 0 w.heap.size with h' | h'
  · exact h'
  · simp [World.cell?, Array.getElem?_eq_none h'] at h
theorem ErrT.below {w w1 : World} (h : ErrT w) (hb : Below w.heap.size w w1) : ErrT w1 := (hb.cell (p := ⟨0, 0, none⟩) h.lt).trans h

set_option maxHeartbeats 4000000 in
theorem as_fault (e t : Addr) (old : Value) (w : World) (hg : ErrT w) (ht0 : w.cell? t = some old) (hf0 : w.frozen? t = false) :
    Calls Tryd.prog 24 #[.iface 51 (.pointer (some e)), .iface 53 (.pointer (some t))] w fun ev w' => ev = .returned (.bool true) ∧ ((((w.alloc (.cells #[.pointer (some t)] 53)).alloc (.cells #[.pointer (some ⟨4, 53, none⟩), .pointer (some ⟨w.heap.size, 0, none⟩), .int .u64 150] 70)).alloc (.cells #[.pointer (some ⟨4, 53, none⟩), .pointer (some ⟨w.heap.size, 0, none⟩), .int .u64 150] 70)).alloc (.cells #[.pointer (some e)] 51)).setCell t (.pointer (some e)) = w' := by
  have hlt := hg.lt
  have h6 := @run_callFunc_extern Tryd.prog 35 _ (fun args => ReflectliteValue.unpack (args.getD 0 (.tuple #[]))) Tryd.func35 (by kernel_rfl) (by kernel_rfl) (by kernel_rfl) (by kernel_rfl)
  have h7 := @run_callFunc_extern Tryd.prog 36 _ (ReflectliteValue.methodAny (ReflectliteValue.valueError "reflectlite.Value.Type" 0) (fun t _ _ _ => ReflectliteType.toType t)) Tryd.func36 (by kernel_rfl) (by kernel_rfl) (by kernel_rfl) (by kernel_rfl)
  have h8 := @run_callFunc_extern Tryd.prog 37 _ (ReflectliteValue.method (ReflectliteValue.valueError "reflectlite.Value.IsNil" 0) ReflectliteValue.isNil) Tryd.func37 (by kernel_rfl) (by kernel_rfl) (by kernel_rfl) (by kernel_rfl)
  have h27 := @run_callFunc_extern Tryd.prog 92 _ (ReflectliteType.abiMethod fun t => do pure (.int .u8 (← Rtype.kind t))) Tryd.func92 (by kernel_rfl) (by kernel_rfl) (by kernel_rfl) (by kernel_rfl)
  have h37 := @run_callFunc_extern Tryd.prog 104 _ (ReflectliteType.method ReflectliteType.elem) Tryd.func104 (by kernel_rfl) (by kernel_rfl) (by kernel_rfl) (by kernel_rfl)
  have h38 := @run_callFunc_extern Tryd.prog 105 _ (ReflectliteType.relation "Implements" ReflectliteType.implements_) Tryd.func105 (by kernel_rfl) (by kernel_rfl) (by kernel_rfl) (by kernel_rfl)
  have h10 := @run_callFunc_extern Tryd.prog 39 _ ReflectliteType.typeOf Tryd.func39 (by kernel_rfl) (by kernel_rfl) (by kernel_rfl) (by kernel_rfl)
  have h35 := @run_callFunc_extern Tryd.prog 102 _ (ReflectliteType.relation "AssignableTo" ReflectliteType.assignableTo) Tryd.func102 (by kernel_rfl) (by kernel_rfl) (by kernel_rfl) (by kernel_rfl)
  have h11 := @run_callFunc_extern Tryd.prog 46 _ (ReflectliteValue.method (ReflectliteValue.valueError "reflectlite.Value.Elem" 0) ReflectliteValue.elem) Tryd.func46 (by kernel_rfl) (by kernel_rfl) (by kernel_rfl) (by kernel_rfl)
  have h12 := @run_callFunc_extern Tryd.prog 47 _ ReflectliteValue.set Tryd.func47 (by kernel_rfl) (by kernel_rfl) (by kernel_rfl) (by kernel_rfl)
  have tO := Tryd.asTypeOfF
  have a25 := Tryd.asAssF
  have v25 := Tryd.asValueOfF
  have f6 := Tryd.asValueOfT
  have f7 := Tryd.asTypeT
  have k27 := Tryd.asKindT
  have k25 := Tryd.asKindF
  have e27 := Tryd.asElemT
  have i25 := Tryd.asImplF
  have n8 := Tryd.asIsNilT ⟨w.heap.size, 0, none⟩ t ((w.alloc (.cells #[.pointer (some t)] 53)).alloc (.cells #[.pointer (some ⟨4, 53, none⟩), .pointer (some ⟨w.heap.size, 0, none⟩), .int .u64 150] 70)) (by simp)
  have hg2 : ((w.alloc (.cells #[.pointer (some t)] 53)).alloc (.cells #[.pointer (some ⟨4, 53, none⟩), .pointer (some ⟨w.heap.size, 0, none⟩), .int .u64 150] 70)).cell? ⟨0, 0, none⟩ = some (.iface 87 (.agg #[.pointer (some ⟨4, 26, none⟩)])) := by
    rw [World.cell?_alloc_lt _ _ ⟨0, 0, none⟩ (by first | (simp; done) | (simp; omega)), World.cell?_alloc_lt _ _ ⟨0, 0, none⟩ hlt]; exact hg
  have htl : t.block < w.heap.size := by
    rcases Nat.lt_or_ge t.block w.heap.size with h | h
    · exact h
    · simp [World.cell?, Array.getElem?_eq_none h] at ht0
  have el := Tryd.asElemV ⟨w.heap.size, 0, none⟩ t (((w.alloc (.cells #[.pointer (some t)] 53)).alloc (.cells #[.pointer (some ⟨4, 53, none⟩), .pointer (some ⟨w.heap.size, 0, none⟩), .int .u64 150] 70)).alloc (.cells #[.pointer (some ⟨4, 53, none⟩), .pointer (some ⟨w.heap.size, 0, none⟩), .int .u64 150] 70)) (by rw [World.cell?_alloc_lt _ _ ⟨w.heap.size, 0, none⟩ (by simp; omega)]; simp)
  have st := Tryd.asSet t ⟨w.heap.size + 1 + 1 + 1, 0, none⟩ e old ((((w.alloc (.cells #[.pointer (some t)] 53)).alloc (.cells #[.pointer (some ⟨4, 53, none⟩), .pointer (some ⟨w.heap.size, 0, none⟩), .int .u64 150] 70)).alloc (.cells #[.pointer (some ⟨4, 53, none⟩), .pointer (some ⟨w.heap.size, 0, none⟩), .int .u64 150] 70)).alloc (.cells #[.pointer (some e)] 51))
    (by rw [World.cell?_alloc_at _ _ _ _ (by simp)]; rfl)
    (by rw [World.cell?_alloc_lt _ _ t (by simp; omega), World.cell?_alloc_lt _ _ t (by simp; omega), World.cell?_alloc_lt _ _ t (by simp; omega), World.cell?_alloc_lt _ _ t htl]; exact ht0)
    (by rw [World.frozen?_alloc_old _ _ t (by simp; omega), World.frozen?_alloc_old _ _ t (by simp; omega), World.frozen?_alloc_old _ _ t (by simp; omega), World.frozen?_alloc_old _ _ t (Nat.ne_of_lt htl)]; exact hf0)
  go_enter Tryd.func24, Tryd.ntmps24
  go_wp2
  refine wp_loop_rounds 1 ?_
  rw [rounds_succ]
  go_wp2
  go_ret
  exact ⟨rfl, rfl⟩

set_option maxHeartbeats 4000000 in
theorem as_errno (k : Int) (t : Addr) (w : World) (hg : ErrT w) :
    Calls Tryd.prog 24 #[.iface 57 (.int .i64 k), .iface 53 (.pointer (some t))] w fun ev w' => ev = .returned (.bool false) ∧ Below w.heap.size w w' := by
  have hlt := hg.lt
  have h6 := @run_callFunc_extern Tryd.prog 35 _ (fun args => ReflectliteValue.unpack (args.getD 0 (.tuple #[]))) Tryd.func35 (by kernel_rfl) (by kernel_rfl) (by kernel_rfl) (by kernel_rfl)
  have h7 := @run_callFunc_extern Tryd.prog 36 _ (ReflectliteValue.methodAny (ReflectliteValue.valueError "reflectlite.Value.Type" 0) (fun t _ _ _ => ReflectliteType.toType t)) Tryd.func36 (by kernel_rfl) (by kernel_rfl) (by kernel_rfl) (by kernel_rfl)
  have h8 := @run_callFunc_extern Tryd.prog 37 _ (ReflectliteValue.method (ReflectliteValue.valueError "reflectlite.Value.IsNil" 0) ReflectliteValue.isNil) Tryd.func37 (by kernel_rfl) (by kernel_rfl) (by kernel_rfl) (by kernel_rfl)
  have h27 := @run_callFunc_extern Tryd.prog 92 _ (ReflectliteType.abiMethod fun t => do pure (.int .u8 (← Rtype.kind t))) Tryd.func92 (by kernel_rfl) (by kernel_rfl) (by kernel_rfl) (by kernel_rfl)
  have h37 := @run_callFunc_extern Tryd.prog 104 _ (ReflectliteType.method ReflectliteType.elem) Tryd.func104 (by kernel_rfl) (by kernel_rfl) (by kernel_rfl) (by kernel_rfl)
  have h38 := @run_callFunc_extern Tryd.prog 105 _ (ReflectliteType.relation "Implements" ReflectliteType.implements_) Tryd.func105 (by kernel_rfl) (by kernel_rfl) (by kernel_rfl) (by kernel_rfl)
  have h10 := @run_callFunc_extern Tryd.prog 39 _ ReflectliteType.typeOf Tryd.func39 (by kernel_rfl) (by kernel_rfl) (by kernel_rfl) (by kernel_rfl)
  have h35 := @run_callFunc_extern Tryd.prog 102 _ (ReflectliteType.relation "AssignableTo" ReflectliteType.assignableTo) Tryd.func102 (by kernel_rfl) (by kernel_rfl) (by kernel_rfl) (by kernel_rfl)
  have tO := Tryd.isTypeOf
  have a25 := Tryd.asAssE
  have f6 := Tryd.asValueOfT
  have f7 := Tryd.asTypeT
  have k27 := Tryd.asKindT
  have k25 := Tryd.asKindF
  have e27 := Tryd.asElemT
  have i25 := Tryd.asImplF
  have nA := Tryd.asNoE
  have uE := Tryd.noUnwrapE
  have vE := Tryd.noUnwrapsE
  have n8 := Tryd.asIsNilT ⟨w.heap.size, 0, none⟩ t ((w.alloc (.cells #[.pointer (some t)] 53)).alloc (.cells #[.pointer (some ⟨4, 53, none⟩), .pointer (some ⟨w.heap.size, 0, none⟩), .int .u64 150] 70)) (by simp)
  have hg2 : ((w.alloc (.cells #[.pointer (some t)] 53)).alloc (.cells #[.pointer (some ⟨4, 53, none⟩), .pointer (some ⟨w.heap.size, 0, none⟩), .int .u64 150] 70)).cell? ⟨0, 0, none⟩ = some (.iface 87 (.agg #[.pointer (some ⟨4, 26, none⟩)])) := by
    rw [World.cell?_alloc_lt _ _ ⟨0, 0, none⟩ (by first | (simp; done) | (simp; omega)), World.cell?_alloc_lt _ _ ⟨0, 0, none⟩ hlt]; exact hg
  go_enter Tryd.func24, Tryd.ntmps24
  go_wp2
  refine wp_loop_rounds 1 ?_
  rw [rounds_succ]
  go_wp2
  go_ret
  exact ⟨rfl, by go_grown⟩
end Go.Proofs.YtonphamahnagfaaDoor

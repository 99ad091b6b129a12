/-
  errors.Is over two error values of the program's own integer type: it says whether the numbers are the same. No conditions.
-/
import Derived.Test.YtpbgdldaojpjkaaRows
import Derived.WalkKit
import Derived.ProofKit
import Derived.OpenShut
import Derived.Handy
import Derived.LaidEql
import Derived.Stop.Asserts
import Derived.RowKitTokens
namespace Go.Proofs.Ytpbgdldaojpjkaa
open Go.ChangeShapes Go.WideShapes Go.ChangeAt Go.RowKit Go.Extern.Stop Go.Stop Go.Extern

theorem run_equalIn_iface_int {P : Program} (w : World) (d : Nat) {ti tn : TypeId} {ms : Array (String × TypeId)} {i : TypeInfo} {k : IntKind} (a b : Int)
    (hi : P.underlying ti = some (.interface ms)) (hn : P.underlying tn = some (.int k)) (hinfo : P.info? tn = some i) (hcomp : i.comparable = true) :
    (Op.equalIn (d + 2) ti (.iface tn (.int k a)) (.iface tn (.int k b))).run P w = .ok (a == b) w := by
  simp [Op.equalIn, run_underlying hi, run_underlying hn, typeInfo, hinfo, hcomp]

theorem run_eql_iface_int {P : Program} (w : World) {ti tn : TypeId} {ms : Array (String × TypeId)} {i : TypeInfo} {k : IntKind} (a b : Int)
    (hi : P.underlying ti = some (.interface ms)) (hn : P.underlying tn = some (.int k)) (hinfo : P.info? tn = some i) (hcomp : i.comparable = true) :
    (binOp .eql ti (.iface tn (.int k a)) (.iface tn (.int k b))).run P w = .ok (.bool (a == b)) w := by
  simp only [binOp]
  simp [Op.equal, Op.maxDepth, run_equalIn_iface_int w 9998 a b hi hn hinfo hcomp]

theorem Try.isTypeOf (v : Value) (w : World) : (Extern.ReflectliteType.typeOf #[.iface 55 v]).run Try.prog w = .ok (.iface 73 (.agg #[.pointer (some ⟨0, 55, none⟩)])) w := by kernel_rfl
theorem Try.isComparable (w : World) : ((Extern.ReflectliteType.method fun t => do Extern.Rtype.noPackHeld "Comparable" t; (fun a => Value.bool a.comparable) <$> typeInfo t) #[.agg #[.pointer (some ⟨0, 55, none⟩)]]).run Try.prog w = .ok (.bool true) w := by kernel_rfl
theorem Try.isComp : (Try.prog.info? 55).map (·.comparable) = some true := by kernel_rfl
theorem Try.noIsE (v : Value) (xT : TypeId) (w : World) : (Instr.typeAssert (.iface 55 v) xT 75 true).run Try.prog w = .ok (.tuple #[.nilIface, .bool false]) w := run_typeAssert_lacksB Try.underlying75 (by kernel_rfl) (by kernel_rfl) v xT w
theorem Try.noUnwrapE (v : Value) (xT : TypeId) (w : World) : (Instr.typeAssert (.iface 55 v) xT 78 true).run Try.prog w = .ok (.tuple #[.nilIface, .bool false]) w := run_typeAssert_lacksB Try.underlying78 (by kernel_rfl) (by kernel_rfl) v xT w
theorem Try.noUnwrapsE (v : Value) (xT : TypeId) (w : World) : (Instr.typeAssert (.iface 55 v) xT 80 true).run Try.prog w = .ok (.tuple #[.nilIface, .bool false]) w := run_typeAssert_lacksB Try.underlying80 (by kernel_rfl) (by kernel_rfl) v xT w

set_option maxHeartbeats 400000 in
theorem is_errno (a b : Int) (w : World) :
    Calls Try.prog 22 #[.iface 55 (.int .i64 a), .iface 55 (.int .i64 b)] w fun e w' => e = .returned (.bool (a == b)) ∧ w = w' := by
  obtain ⟨i, hi, hcmp⟩ := Option.map_eq_some_iff.1 Try.isComp
  have hT := @run_callFunc_extern Try.prog 30 _ Extern.ReflectliteType.typeOf Try.func30 (by kernel_rfl) (by kernel_rfl) (by kernel_rfl) (by kernel_rfl)
  have hC := @run_callFunc_extern Try.prog 52 _ (Extern.ReflectliteType.method fun t => do Extern.Rtype.noPackHeld "Comparable" t; pure (.bool (← typeInfo t).comparable)) Try.func52 (by kernel_rfl) (by kernel_rfl) (by kernel_rfl) (by kernel_rfl)
  have tT := Try.isTypeOf
  have cT := Try.isComparable
  have nE := Try.noIsE
  have uE := Try.noUnwrapE
  have vE := Try.noUnwrapsE
  by_cases hab : a = b
  · subst hab
    have heq := run_eql_iface_int (P := Try.prog) w a a Try.underlying26 Try.underlying55 hi hcmp
    rw [beq_self_eq_true] at heq ⊢
    go_enter Try.func22, Try.ntmps22
    go_wp2
    refine wp_loop_rounds 1 ?_
    rw [rounds_succ]
    go_wp2
    go_ret
    exact ⟨rfl, rfl⟩
  · have hne : (a == b) = false := by simp [hab]
    have heq := run_eql_iface_int (P := Try.prog) w a b Try.underlying26 Try.underlying55 hi hcmp
    rw [hne] at heq ⊢
    go_enter Try.func22, Try.ntmps22
    go_wp2
    refine wp_loop_rounds 1 ?_
    rw [rounds_succ]
    go_wp2
    go_ret
    exact ⟨rfl, rfl⟩
end Go.Proofs.Ytpbgdldaojpjkaa

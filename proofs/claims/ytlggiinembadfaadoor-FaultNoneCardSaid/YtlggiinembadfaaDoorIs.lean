/-
  errors.Is at api.Errno, walked: the fault is a bare number; fault.Is.
-/
import Derived.Test.YtlggiinembadfaaDoorAsW
namespace Go.Proofs.YtlggiinembadfaaDoor
open Go.RowKit Go.Extern.Stop Go.Stop Go.Extern
set_option linter.unusedVariables false

theorem run_equalIn_errno {P : Program} (w : World) (d : Nat) {ti tn : TypeId} {ms : Array (String × TypeId)} {i : TypeInfo} {k : IntKind} (a b : Int)
    (hi : P.underlying ti = some (.interface ms)) (hn : P.underlying tn = some (.int k)) (hinfo : P.info? tn = some i) (hcomp : i.comparable = true) :
    (Op.equalIn (d + 2) ti (.iface tn (.int k a)) (.iface tn (.int k b))).run P w = .ok (a == b) w := by
  simp [Op.equalIn, run_underlying hi, run_underlying hn, typeInfo, hinfo, hcomp]
theorem errno_comparable : (Tryd.prog.info? 22).map (·.comparable) = some true := by kernel_rfl
/-- '==' between two faults that are numbers. -/
theorem eq_errno (a b : Int) (w : World) : (binOp .eql 25 (.iface 22 (.int .i64 a)) (.iface 22 (.int .i64 b))).run Tryd.prog w = .ok (.bool (a == b)) w := by
  cases h : Tryd.prog.info? 22 with
  | none => have := errno_comparable; rw [h] at this; cases this
  | some i =>
    have hc : i.comparable = true := by have := errno_comparable; rw [h] at this; simpa using this
    simp only [binOp]
    simp [Op.equal, Op.maxDepth, run_equalIn_errno w 9998 a b Tryd.underlying25 Tryd.underlying22 h hc]
theorem eMethodComparable (h : Value) (w : World) : (Go.method 236 73 (.agg #[h]) "Comparable").run Tryd.prog w = .ok (75, .agg #[h]) w := by kernel_rfl
theorem eComparable (w : World) : (ReflectliteType.method (fun t => do Rtype.noPackHeld "Comparable" t; (fun a : TypeInfo => Value.bool a.comparable) <$> typeInfo t) #[.agg #[.pointer (some ⟨5, 22, none⟩)]]).run Tryd.prog w = .ok (.bool true) w := by kernel_rfl
theorem is_nil (n : Int) (w : World) (hn : (n == 0) = false) : Calls Tryd.prog 13 #[.nilIface, .int .i64 n] w fun e w' => e = .returned (.bool false) ∧ w = w' := by
  go_enter Tryd.func13, Tryd.ntmps13
  go_wp2
  go_ret
  exact ⟨rfl, rfl⟩
set_option maxRecDepth 100000 in
set_option maxHeartbeats 4000000 in
theorem is_same (n : Int) (w : World) : Calls Tryd.prog 13 #[.iface 22 (.int .i64 n), .int .i64 n] w fun e w' => e = .returned (.bool true) ∧ Fr noneOf w w' := by
  have h10 := @run_callFunc_extern Tryd.prog 25 _ ReflectliteType.typeOf Tryd.func25 (by kernel_rfl) (by kernel_rfl) (by kernel_rfl) (by kernel_rfl)
  have hC := @run_callFunc_extern Tryd.prog 75 _ (ReflectliteType.method (fun t => do Rtype.noPackHeld "Comparable" t; pure (.bool (← typeInfo t).comparable))) Tryd.func75 (by kernel_rfl) (by kernel_rfl) (by kernel_rfl) (by kernel_rfl)
  have eC := eComparable
  have eQ := eq_errno n n
  rw [show (n == n) = true from by simp] at eQ
  have tO := eTypeOfE
  have mC := eMethodComparable
  go_enter Tryd.func13, Tryd.ntmps13
  go_wp2
  refine wp_loop_rounds 1 ?_
  rw [rounds_succ]
  go_wp2
  go_ret
  exact ⟨rfl, Fr.refl _ _⟩
end Go.Proofs.YtlggiinembadfaaDoor

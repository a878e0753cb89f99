/-
  errors.As and errors.Is at api.Errno, and fault.Code, fault.Is over them: contracts for nil and for a bare number.
  Conditions: where the fault is a number, the variable errors.errorType holds the handle of 'error'.
  (After the guide's worked example of errors.As at a pointer type; here the target's type is an integer type.)
-/
import Derived.Test.YtblnmghbcgbgdaaDoorBase
import Derived.Test.YtblnmghbcgbgdaaDoorChecked
import Derived.LaidEql
import Derived.Stop.Asserts
import Derived.RowKitTokens
import Derived.Outline
namespace Go.Proofs.YtblnmghbcgbgdaaDoor
open Go.RowKit Go.Extern.Stop Go.Stop Go.Extern
set_option linter.unusedVariables false

/-- The handle of type t. -/
def hdl (t : Nat) : Value := .pointer (some ⟨1, t, none⟩)
/-- errors.errorType holds the handle of 'error'. -/
def errT (w : World) : Prop := w.cell? ⟨0, 0, none⟩ = some (.iface 137 (.agg #[.pointer (some ⟨1, 29, none⟩)]))
theorem errT.fr {w w' : World} (h : errT w) (hf : Fr noneOf w w') : errT w' := (hf.cell (p := ⟨0, 0, none⟩) (World.block_lt_of_cell? _ _ h) (fun x => x)).trans h
theorem errT.lt {w : World} (h : errT w) : 0 < w.heap.size := World.block_lt_of_cell? w ⟨0, 0, none⟩ h

theorem as_nil (t : Value) (w : World) : Calls Tryd.prog 34 #[.nilIface, t] w fun e w' => e = .returned (.bool false) ∧ w = w' := by
  go_enter Tryd.func34, Tryd.ntmps34
  go_wp2
  go_ret
  exact ⟨rfl, rfl⟩

theorem eValueOfP (t : Addr) (w : World) : (ReflectliteValue.unpack (.iface 77 (.pointer (some t)))).run Tryd.prog w
    = .ok (.agg #[.pointer (some ⟨1, 77, none⟩), .pointer (some ⟨w.heap.size, 0, none⟩), .int .u64 150]) (w.alloc (.cells #[.pointer (some t)] 77)) := by kernel_rfl
theorem eTypeP (a : Addr) (w : World) : (ReflectliteValue.methodAny (ReflectliteValue.valueError "reflectlite.Value.Type" 0) (fun t _ _ _ => ReflectliteType.toType t) #[.agg #[.pointer (some ⟨1, 77, none⟩), .pointer (some a), .int .u64 150]]).run Tryd.prog w
    = .ok (.iface 137 (.agg #[.pointer (some ⟨1, 77, none⟩)])) w := by kernel_rfl
theorem eMethodKind (h : Value) (w : World) : (Go.method 286 137 (.agg #[h]) "Kind").run Tryd.prog w = .ok (107, h) w := by kernel_rfl
theorem eKindP (w : World) : ((ReflectliteType.abiMethod fun t => (fun a : Nat => Value.int IntKind.u8 (a : Int)) <$> Rtype.kind t) #[.pointer (some ⟨1, 77, none⟩)]).run Tryd.prog w = .ok (.int .u8 22) w := by kernel_rfl
theorem eKindE (w : World) : ((ReflectliteType.abiMethod fun t => (fun a : Nat => Value.int IntKind.u8 (a : Int)) <$> Rtype.kind t) #[.pointer (some ⟨1, 32, none⟩)]).run Tryd.prog w = .ok (.int .u8 2) w := by kernel_rfl
theorem eRlm (z : Sem Value) (f : TypeId → Addr → Nat → Nat → Sem Value) (v : Value) :
    ReflectliteValue.method z f #[v] = (do match ← ReflectliteValue.parts v with | none => z | some (t, a, fl) => f t a fl (fl % 32)) := rfl
theorem ePartsP (a : Addr) (w : World) : (ReflectliteValue.parts (.agg #[.pointer (some ⟨1, 77, none⟩), .pointer (some a), .int .u64 150])).run Tryd.prog w = .ok (some (77, a, 150)) w := by kernel_rfl
theorem eIsNilP (a p : Addr) (W : World) (ha : W.cell? a = some (.pointer (some p))) :
    (ReflectliteValue.method (ReflectliteValue.valueError "reflectlite.Value.IsNil" 0) ReflectliteValue.isNil #[.agg #[.pointer (some ⟨1, 77, none⟩), .pointer (some a), .int .u64 150]]).run Tryd.prog W = .ok (.bool false) W := by
  rw [eRlm]
  simp only [Sem.run_bind, ePartsP, Result.andThen]
  simp [ReflectliteValue.isNil, loadVar, isAgg, underlying, Tryd.underlying77, ha, Result.andThen]
theorem eMethodElem (h : Value) (w : World) : (Go.method 286 137 (.agg #[h]) "Elem").run Tryd.prog w = .ok (120, .agg #[h]) w := by kernel_rfl
theorem eMethodImplements (h : Value) (w : World) : (Go.method 286 137 (.agg #[h]) "Implements").run Tryd.prog w = .ok (121, .agg #[h]) w := by kernel_rfl
theorem eMethodAssignableTo (h : Value) (w : World) : (Go.method 286 137 (.agg #[h]) "AssignableTo").run Tryd.prog w = .ok (118, .agg #[h]) w := by kernel_rfl
theorem eElemP (w : World) : (ReflectliteType.method ReflectliteType.elem #[.agg #[.pointer (some ⟨1, 77, none⟩)]]).run Tryd.prog w = .ok (.iface 137 (.agg #[.pointer (some ⟨1, 32, none⟩)])) w := by kernel_rfl
theorem eImplementsE (w : World) : (ReflectliteType.relation "Implements" ReflectliteType.implements_ #[.agg #[.pointer (some ⟨1, 32, none⟩)], .iface 137 (.agg #[.pointer (some ⟨1, 29, none⟩)])]).run Tryd.prog w = .ok (.bool true) w := by kernel_rfl
theorem eTypeOfE (v : Value) (w : World) : (ReflectliteType.typeOf #[.iface 32 v]).run Tryd.prog w = .ok (.iface 137 (.agg #[.pointer (some ⟨1, 32, none⟩)])) w := by kernel_rfl
theorem eAssignableE (w : World) : (ReflectliteType.relation "AssignableTo" ReflectliteType.assignableTo #[.agg #[.pointer (some ⟨1, 32, none⟩)], .iface 137 (.agg #[.pointer (some ⟨1, 32, none⟩)])]).run Tryd.prog w = .ok (.bool true) w := by kernel_rfl
theorem eValueOfE (n : Int) (w : World) : (ReflectliteValue.unpack (.iface 32 (.int .i64 n))).run Tryd.prog w
    = .ok (.agg #[.pointer (some ⟨1, 32, none⟩), .pointer (some ⟨w.heap.size, 0, none⟩), .int .u64 130]) (w.alloc (.cells #[.int .i64 n] 32)) := by kernel_rfl
theorem eElemOfP (w : World) : (Rtype.elem? 77).run Tryd.prog w = .ok (some 32) w := by kernel_rfl
theorem eMkE (p : Addr) (w : World) : (ReflectliteValue.mk 32 p ReflectliteValue.flagAddr).run Tryd.prog w = .ok (.agg #[.pointer (some ⟨1, 32, none⟩), .pointer (some p), .int .u64 386]) w := by kernel_rfl
theorem eElemV (a p : Addr) (W : World) (ha : W.cell? a = some (.pointer (some p))) :
    (ReflectliteValue.method (ReflectliteValue.valueError "reflectlite.Value.Elem" 0) ReflectliteValue.elem #[.agg #[.pointer (some ⟨1, 77, none⟩), .pointer (some a), .int .u64 150]]).run Tryd.prog W
      = .ok (.agg #[.pointer (some ⟨1, 32, none⟩), .pointer (some p), .int .u64 386]) W := by
  rw [eRlm]
  simp only [Sem.run_bind, ePartsP, Result.andThen]
  simp [ReflectliteValue.elem, loadVar, isAgg, underlying, Tryd.underlying77, ha, Result.andThen, eElemOfP, eMkE]
theorem eRls (v x : Value) : ReflectliteValue.set #[v, x] = (do
    let (some (dst, a, fl), some (src, b, _)) := (← ReflectliteValue.parts v, ← ReflectliteValue.parts x)
      | unsupported (.noEntry "extern/(internal/reflectlite.Value).Set.zeroValue")
    if fl / ReflectliteValue.flagAddr % 2 == 0 then unsupported (.noEntry "extern/(internal/reflectlite.Value).Set.unaddressable")
    let val ← loadVar src b
    if ← Rtype.directlyAssignable dst src then storeVar dst a val
    else if ← Rtype.implements dst src then
      if (← Rtype.kind src) == 20 then
        match val with
        | .nilIface => unsupported (.noEntry "extern/reflectlite: a nil value of one interface type handed on as a value of another")
        | _ => storeVar dst a val
      else storeVar dst a (.iface src val)
    else panicString ("reflectlite.Set: value of type " ++ (← Rtype.spelt src) ++ " is not assignable to type " ++ (← Rtype.spelt dst))
    pure (.tuple #[])) := rfl
theorem ePartsEa (a : Addr) (w : World) : (ReflectliteValue.parts (.agg #[.pointer (some ⟨1, 32, none⟩), .pointer (some a), .int .u64 386])).run Tryd.prog w = .ok (some (32, a, 386)) w := by kernel_rfl
theorem ePartsE (a : Addr) (w : World) : (ReflectliteValue.parts (.agg #[.pointer (some ⟨1, 32, none⟩), .pointer (some a), .int .u64 130])).run Tryd.prog w = .ok (some (32, a, 130)) w := by kernel_rfl
theorem eDirectE (w : World) : (Rtype.directlyAssignable 32 32).run Tryd.prog w = .ok true w := by kernel_rfl
theorem eSet (ta b : Addr) (n : Int) (old : Value) (W : World) (hb : W.cell? b = some (.int .i64 n)) (ht : W.cell? ta = some old) (hf : W.frozen? ta = false) :
    (ReflectliteValue.set #[.agg #[.pointer (some ⟨1, 32, none⟩), .pointer (some ta), .int .u64 386], .agg #[.pointer (some ⟨1, 32, none⟩), .pointer (some b), .int .u64 130]]).run Tryd.prog W
      = .ok (.tuple #[]) (W.setCell ta (.int .i64 n)) := by
  rw [eRls]
  simp only [Sem.run_bind, ePartsEa, ePartsE, Result.andThen]
  simp [ReflectliteValue.flagAddr, loadVar, isAgg, underlying, Tryd.underlying32, hb, Result.andThen, eDirectE, storeVar, Value.cells, storeCells, Addr.add]
  rw [run_store Tryd.prog W ta _ _ (by rfl)]
  simp [ht, hf]
end Go.Proofs.YtblnmghbcgbgdaaDoor

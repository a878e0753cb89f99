/-
  errors.As at api.Errno, walked: a number with a place around it; fault.Code of that.
-/
import Derived.Test.YtijcochanobpgaaDoorAround
namespace Go.Proofs.YtijcochanobpgaaDoor
open Go.RowKit Nums Go.Extern.Stop Go.Stop Go.Extern
set_option linter.unusedVariables false

theorem aTypeOf (v : Value) (w : World) : (ReflectliteType.typeOf #[.iface 66 v]).run Tryd.prog w = .ok (.iface 90 (.agg #[.pointer (some ⟨1, 66, none⟩)])) w := by kernel_rfl
theorem aAssignable (w : World) : (ReflectliteType.relation "AssignableTo" ReflectliteType.assignableTo #[.agg #[.pointer (some ⟨1, 66, none⟩)], .iface 90 (.agg #[.pointer (some ⟨1, 23, none⟩)])]).run Tryd.prog w = .ok (.bool false) w := by kernel_rfl
theorem arLacksAs (v : Value) (xT : TypeId) (w : World) : (Instr.typeAssert (.iface 66 v) xT 94 true).run Tryd.prog w = .ok (.tuple #[.nilIface, .bool false]) w := run_typeAssert_lacksB Tryd.underlying94 (by kernel_rfl) (by kernel_rfl) v xT w
set_option maxRecDepth 100000 in
set_option maxHeartbeats 8000000 in
theorem as_around (g : Nat) (n p : Int) (t : Addr) (old : Value) (w : World) (hg : errT w) (hb : Blk w g 68 (arC n p)) (ht0 : w.cell? t = some old) (hf0 : w.frozen? t = false) :
    Calls Tryd.prog 24 #[.iface 66 (.pointer (some ⟨g, 0, none⟩)), .iface 53 (.pointer (some t))] w fun ev w' => ev = .returned (.bool true) ∧ ∃ w1, w' = w1.setCell t (.int .i64 n) ∧ Fr noneOf w w1 := by
  have h6 := @run_callFunc_extern Tryd.prog 32 _ (fun args => ReflectliteValue.unpack (args.getD 0 (.tuple #[]))) Tryd.func32 (by kernel_rfl) (by kernel_rfl) (by kernel_rfl) (by kernel_rfl)
  have h7 := @run_callFunc_extern Tryd.prog 33 _ (ReflectliteValue.methodAny (ReflectliteValue.valueError "reflectlite.Value.Type" 0) (fun t _ _ _ => ReflectliteType.toType t)) Tryd.func33 (by kernel_rfl) (by kernel_rfl) (by kernel_rfl) (by kernel_rfl)
  have h8 := @run_callFunc_extern Tryd.prog 34 _ (ReflectliteValue.method (ReflectliteValue.valueError "reflectlite.Value.IsNil" 0) ReflectliteValue.isNil) Tryd.func34 (by kernel_rfl) (by kernel_rfl) (by kernel_rfl) (by kernel_rfl)
  have h27 := @run_callFunc_extern Tryd.prog 56 _ (ReflectliteType.abiMethod fun t => do pure (.int .u8 (← Rtype.kind t))) Tryd.func56 (by kernel_rfl) (by kernel_rfl) (by kernel_rfl) (by kernel_rfl)
  have h37 := @run_callFunc_extern Tryd.prog 71 _ (ReflectliteType.method ReflectliteType.elem) Tryd.func71 (by kernel_rfl) (by kernel_rfl) (by kernel_rfl) (by kernel_rfl)
  have h38 := @run_callFunc_extern Tryd.prog 72 _ (ReflectliteType.relation "Implements" ReflectliteType.implements_) Tryd.func72 (by kernel_rfl) (by kernel_rfl) (by kernel_rfl) (by kernel_rfl)
  have h10 := @run_callFunc_extern Tryd.prog 37 _ ReflectliteType.typeOf Tryd.func37 (by kernel_rfl) (by kernel_rfl) (by kernel_rfl) (by kernel_rfl)
  have h35 := @run_callFunc_extern Tryd.prog 69 _ (ReflectliteType.relation "AssignableTo" ReflectliteType.assignableTo) Tryd.func69 (by kernel_rfl) (by kernel_rfl) (by kernel_rfl) (by kernel_rfl)
  have h11 := @run_callFunc_extern Tryd.prog 39 _ (ReflectliteValue.method (ReflectliteValue.valueError "reflectlite.Value.Elem" 0) ReflectliteValue.elem) Tryd.func39 (by kernel_rfl) (by kernel_rfl) (by kernel_rfl) (by kernel_rfl)
  have h12 := @run_callFunc_extern Tryd.prog 40 _ ReflectliteValue.set Tryd.func40 (by kernel_rfl) (by kernel_rfl) (by kernel_rfl) (by kernel_rfl)
  have tO := eTypeOfE
  have tA := aTypeOf (.pointer (some ⟨g, 0, none⟩))
  have aA := aAssignable
  have aL := fun w => arLacksAs (.pointer (some ⟨g, 0, none⟩)) 31 w
  have aH := fun w => arHasUnwrap (.pointer (some ⟨g, 0, none⟩)) 31 w
  have aU := arUnwrap g
  have hgl := hb.lt
  have c0 : w.cell? ⟨g, 0, none⟩ = some (.iface 23 (.int .i64 n)) := hb.cell 0
  have mA := eMethodAssignableTo
  have a25 := eAssignableE
  have v25 := eValueOfE
  have f6 := eValueOfP
  have f7 := eTypeP
  have mK := eMethodKind
  have mE := eMethodElem
  have mI := eMethodImplements
  have k27 := eKindP
  have k25 := eKindE
  have e27 := eElemP
  have i25 := eImplementsE
  have n8 := eIsNilP ⟨w.heap.size, 0, none⟩ t ((w.alloc (.cells #[.pointer (some t)] 53)).alloc (.cells #[.pointer (some ⟨1, 53, none⟩), .pointer (some ⟨w.heap.size, 0, none⟩), .int .u64 150] 73)) (by simp)
  have hlt : 0 < w.heap.size := hg.lt
  have hg2 : ((w.alloc (.cells #[.pointer (some t)] 53)).alloc (.cells #[.pointer (some ⟨1, 53, none⟩), .pointer (some ⟨w.heap.size, 0, none⟩), .int .u64 150] 73)).cell? ⟨0, 0, none⟩ = some (.iface 90 (.agg #[.pointer (some ⟨1, 31, none⟩)])) := by
    rw [World.cell?_alloc_lt _ _ ⟨0, 0, none⟩ (Nat.lt_of_lt_of_le hlt (by simp)), World.cell?_alloc_lt _ _ ⟨0, 0, none⟩ hlt]; exact hg
  have htl : t.block < w.heap.size := by
    rcases Nat.lt_or_ge t.block w.heap.size with h | h
    · exact h
    · simp [World.cell?, Array.getElem?_eq_none h] at ht0
  have el := eElemV ⟨w.heap.size, 0, none⟩ t (((w.alloc (.cells #[.pointer (some t)] 53)).alloc (.cells #[.pointer (some ⟨1, 53, none⟩), .pointer (some ⟨w.heap.size, 0, none⟩), .int .u64 150] 73)).alloc (.cells #[.pointer (some ⟨1, 53, none⟩), .pointer (some ⟨w.heap.size, 0, none⟩), .int .u64 150] 73)) (by rw [World.cell?_alloc_lt _ _ ⟨w.heap.size, 0, none⟩ (by simp; omega)]; simp)
  have c3 : (((w.alloc (.cells #[.pointer (some t)] 53)).alloc (.cells #[.pointer (some ⟨1, 53, none⟩), .pointer (some ⟨w.heap.size, 0, none⟩), .int .u64 150] 73)).alloc (.cells #[.pointer (some ⟨1, 53, none⟩), .pointer (some ⟨w.heap.size, 0, none⟩), .int .u64 150] 73)).cell? ⟨g, 0, none⟩ = some (.iface 23 (.int .i64 n)) := (((hb.alloc _).alloc _).alloc _).cell 0
  have st := eSet t ⟨w.heap.size + 1 + 1 + 1, 0, none⟩ n old ((((w.alloc (.cells #[.pointer (some t)] 53)).alloc (.cells #[.pointer (some ⟨1, 53, none⟩), .pointer (some ⟨w.heap.size, 0, none⟩), .int .u64 150] 73)).alloc (.cells #[.pointer (some ⟨1, 53, none⟩), .pointer (some ⟨w.heap.size, 0, none⟩), .int .u64 150] 73)).alloc (.cells #[.int .i64 n] 23))
    (by rw [World.cell?_alloc_at _ _ _ _ (by simp)]; rfl)
    (by rw [World.cell?_alloc_lt _ _ t (by simp; omega), World.cell?_alloc_lt _ _ t (by simp; omega), World.cell?_alloc_lt _ _ t (by simp; omega), World.cell?_alloc_lt _ _ t htl]; exact ht0)
    (by rw [World.frozen?_alloc_old _ _ t (by simp; omega), World.frozen?_alloc_old _ _ t (by simp; omega), World.frozen?_alloc_old _ _ t (by simp; omega), World.frozen?_alloc_old _ _ t (Nat.ne_of_lt htl)]; exact hf0)
  clear hg hb c0
  go_enter Tryd.func24, Tryd.ntmps24
  go_wp2
  refine wp_loop_rounds 2 ?_
  rw [rounds_succ]
  go_wp2
  rw [rounds_succ]
  go_wp2
  go_ret
  refine ⟨rfl, _, rfl, ?_⟩
  repeat (first | exact Fr.refl _ _ | apply Fr.alloc)
end Go.Proofs.YtijcochanobpgaaDoor

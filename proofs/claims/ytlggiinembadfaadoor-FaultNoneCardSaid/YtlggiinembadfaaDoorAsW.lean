/-
  errors.As at api.Errno, walked: the fault is a bare number; fault.Code, fault.New.
  Conditions: errors.errorType holds the handle of 'error'.
-/
import Derived.Test.YtlggiinembadfaaDoorAs
namespace Go.Proofs.YtlggiinembadfaaDoor
open Go.RowKit Go.Extern.Stop Go.Stop Go.Extern
set_option linter.unusedVariables false

set_option maxHeartbeats 4000000 in
theorem as_hit (n : Int) (t : Addr) (old : Value) (w : World) (hg : errT w) (ht0 : w.cell? t = some old) (hf0 : w.frozen? t = false) :
    Calls Tryd.prog 15 #[.iface 22 (.int .i64 n), .iface 46 (.pointer (some t))] w fun ev w' => ev = .returned (.bool true) ∧ w' = ((((w.alloc (.cells #[.pointer (some t)] 46)).alloc (.cells #[.pointer (some ⟨5, 46, none⟩), .pointer (some ⟨w.heap.size, 0, none⟩), .int .u64 150] 54)).alloc (.cells #[.pointer (some ⟨5, 46, none⟩), .pointer (some ⟨w.heap.size, 0, none⟩), .int .u64 150] 54)).alloc (.cells #[.int .i64 n] 22)).setCell t (.int .i64 n) := by
  have h6 := @run_callFunc_extern Tryd.prog 18 _ (fun args => ReflectliteValue.unpack (args.getD 0 (.tuple #[]))) Tryd.func18 (by kernel_rfl) (by kernel_rfl) (by kernel_rfl) (by kernel_rfl)
  have h7 := @run_callFunc_extern Tryd.prog 19 _ (ReflectliteValue.methodAny (ReflectliteValue.valueError "reflectlite.Value.Type" 0) (fun t _ _ _ => ReflectliteType.toType t)) Tryd.func19 (by kernel_rfl) (by kernel_rfl) (by kernel_rfl) (by kernel_rfl)
  have h8 := @run_callFunc_extern Tryd.prog 20 _ (ReflectliteValue.method (ReflectliteValue.valueError "reflectlite.Value.IsNil" 0) ReflectliteValue.isNil) Tryd.func20 (by kernel_rfl) (by kernel_rfl) (by kernel_rfl) (by kernel_rfl)
  have h27 := @run_callFunc_extern Tryd.prog 47 _ (ReflectliteType.abiMethod fun t => do pure (.int .u8 (← Rtype.kind t))) Tryd.func47 (by kernel_rfl) (by kernel_rfl) (by kernel_rfl) (by kernel_rfl)
  have h37 := @run_callFunc_extern Tryd.prog 76 _ (ReflectliteType.method ReflectliteType.elem) Tryd.func76 (by kernel_rfl) (by kernel_rfl) (by kernel_rfl) (by kernel_rfl)
  have h38 := @run_callFunc_extern Tryd.prog 77 _ (ReflectliteType.relation "Implements" ReflectliteType.implements_) Tryd.func77 (by kernel_rfl) (by kernel_rfl) (by kernel_rfl) (by kernel_rfl)
  have h10 := @run_callFunc_extern Tryd.prog 25 _ ReflectliteType.typeOf Tryd.func25 (by kernel_rfl) (by kernel_rfl) (by kernel_rfl) (by kernel_rfl)
  have h35 := @run_callFunc_extern Tryd.prog 74 _ (ReflectliteType.relation "AssignableTo" ReflectliteType.assignableTo) Tryd.func74 (by kernel_rfl) (by kernel_rfl) (by kernel_rfl) (by kernel_rfl)
  have h11 := @run_callFunc_extern Tryd.prog 27 _ (ReflectliteValue.method (ReflectliteValue.valueError "reflectlite.Value.Elem" 0) ReflectliteValue.elem) Tryd.func27 (by kernel_rfl) (by kernel_rfl) (by kernel_rfl) (by kernel_rfl)
  have h12 := @run_callFunc_extern Tryd.prog 28 _ ReflectliteValue.set Tryd.func28 (by kernel_rfl) (by kernel_rfl) (by kernel_rfl) (by kernel_rfl)
  have tO := eTypeOfE
  have mA := eMethodAssignableTo
  have a25 := eAssignableE
  have v25 := eValueOfE
  have f6 := eValueOfP
  have f7 := eTypeP
  have mK := eMethodKind
  have mE := eMethodElem
  have mI := eMethodImplements
  have k27 := eKindP
  have k25 := eKindE
  have e27 := eElemP
  have i25 := eImplementsE
  have n8 := eIsNilP ⟨w.heap.size, 0, none⟩ t ((w.alloc (.cells #[.pointer (some t)] 46)).alloc (.cells #[.pointer (some ⟨5, 46, none⟩), .pointer (some ⟨w.heap.size, 0, none⟩), .int .u64 150] 54)) (by simp)
  have hlt : 0 < w.heap.size := hg.lt
  have hg2 : ((w.alloc (.cells #[.pointer (some t)] 46)).alloc (.cells #[.pointer (some ⟨5, 46, none⟩), .pointer (some ⟨w.heap.size, 0, none⟩), .int .u64 150] 54)).cell? ⟨0, 0, none⟩ = some (.iface 73 (.agg #[.pointer (some ⟨5, 25, none⟩)])) := by
    rw [World.cell?_alloc_lt _ _ ⟨0, 0, none⟩ (Nat.lt_of_lt_of_le hlt (by simp)), World.cell?_alloc_lt _ _ ⟨0, 0, none⟩ hlt]; exact hg
  have htl : t.block < w.heap.size := by
    rcases Nat.lt_or_ge t.block w.heap.size with h | h
    · exact h
    · simp [World.cell?, Array.getElem?_eq_none h] at ht0
  have el := eElemV ⟨w.heap.size, 0, none⟩ t (((w.alloc (.cells #[.pointer (some t)] 46)).alloc (.cells #[.pointer (some ⟨5, 46, none⟩), .pointer (some ⟨w.heap.size, 0, none⟩), .int .u64 150] 54)).alloc (.cells #[.pointer (some ⟨5, 46, none⟩), .pointer (some ⟨w.heap.size, 0, none⟩), .int .u64 150] 54)) (by rw [World.cell?_alloc_lt _ _ ⟨w.heap.size, 0, none⟩ (by simp; omega)]; simp)
  have st := eSet t ⟨w.heap.size + 1 + 1 + 1, 0, none⟩ n old ((((w.alloc (.cells #[.pointer (some t)] 46)).alloc (.cells #[.pointer (some ⟨5, 46, none⟩), .pointer (some ⟨w.heap.size, 0, none⟩), .int .u64 150] 54)).alloc (.cells #[.pointer (some ⟨5, 46, none⟩), .pointer (some ⟨w.heap.size, 0, none⟩), .int .u64 150] 54)).alloc (.cells #[.int .i64 n] 22))
    (by rw [World.cell?_alloc_at _ _ _ _ (by simp)]; rfl)
    (by rw [World.cell?_alloc_lt _ _ t (by simp; omega), World.cell?_alloc_lt _ _ t (by simp; omega), World.cell?_alloc_lt _ _ t (by simp; omega), World.cell?_alloc_lt _ _ t htl]; exact ht0)
    (by rw [World.frozen?_alloc_old _ _ t (by simp; omega), World.frozen?_alloc_old _ _ t (by simp; omega), World.frozen?_alloc_old _ _ t (by simp; omega), World.frozen?_alloc_old _ _ t (Nat.ne_of_lt htl)]; exact hf0)
  clear hg
  go_enter Tryd.func15, Tryd.ntmps15
  go_wp2
  refine wp_loop_rounds 1 ?_
  rw [rounds_succ]
  go_wp2
  go_ret
  exact ⟨rfl, rfl⟩
/-- fault.Code of nothing. -/
theorem code_nil (w : World) : Calls Tryd.prog 10 #[.nilIface] w fun e w' => e = .returned (.int .i64 0) ∧ Fr noneOf w w' := by
  go_enter Tryd.func10, Tryd.ntmps10
  go_wp2_with (go_at_call 15; refine (as_nil _ _).mono ?_; rintro e w' ⟨rfl, rfl⟩)
  go_ret
  exact ⟨rfl, (Fr.refl _ _).alloc _⟩
/-- fault.Code of a number. -/
theorem code_num (n : Int) (w : World) (hg : errT w) : Calls Tryd.prog 10 #[.iface 22 (.int .i64 n)] w fun e w' => e = .returned (.int .i64 n) ∧ Fr noneOf w w' := by
  have hb := Blk.new w 22 #[.int .i64 0]
  have hc : (w.alloc (.cells #[.int .i64 0] 22)).cell? ⟨w.heap.size, 0, none⟩ = some (.int .i64 0) := hb.cell 0
  have hf := hb.frozen 0
  have HG := Lib.hid (hg.fr ((Fr.refl noneOf w).alloc (.cells #[.int .i64 0] 22)))
  clear hg hb
  go_enter Tryd.func10, Tryd.ntmps10
  go_wp2_with (go_at_call 15; refine (as_hit n _ _ _ HG.out hc hf).mono ?_; rintro e w' ⟨rfl, rfl⟩)
  go_ret
  refine ⟨rfl, ?_⟩
  repeat (first | exact Fr.refl _ _ | apply Fr.alloc | (refine Fr.setCell ?_ (.inr (Nat.le_refl _)) _))
/-- fault.New. -/
theorem fnew_no (w : World) : Calls Tryd.prog 8 #[.int .i64 0] w fun e w' => e = .returned .nilIface ∧ w = w' := by
  go_enter Tryd.func8, Tryd.ntmps8
  go_wp2
  go_ret
  exact ⟨rfl, rfl⟩
theorem fnew_yes (n : Int) (w : World) (hn : (n == 0) = false) : Calls Tryd.prog 8 #[.int .i64 n] w fun e w' => e = .returned (.iface 22 (.int .i64 n)) ∧ w = w' := by
  go_enter Tryd.func8, Tryd.ntmps8
  go_wp2
  go_ret
  exact ⟨rfl, rfl⟩
end Go.Proofs.YtlggiinembadfaaDoor

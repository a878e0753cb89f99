/-
  errors.As at api.Errno, walked: the fault is a bare number; fault.Code, fault.New.
  Conditions: errors.errorType holds the handle of 'error'.
-/
import Derived.Test.YtijcochanobpgaaDoorAs
namespace Go.Proofs.YtijcochanobpgaaDoor
open Go.RowKit Go.Extern.Stop Go.Stop Go.Extern
set_option linter.unusedVariables false

set_option maxHeartbeats 4000000 in
theorem as_hit (n : Int) (t : Addr) (old : Value) (w : World) (hg : errT w) (ht0 : w.cell? t = some old) (hf0 : w.frozen? t = false) :
    Calls Tryd.prog 24 #[.iface 23 (.int .i64 n), .iface 53 (.pointer (some t))] w fun ev w' => ev = .returned (.bool true) ∧ w' = ((((w.alloc (.cells #[.pointer (some t)] 53)).alloc (.cells #[.pointer (some ⟨1, 53, none⟩), .pointer (some ⟨w.heap.size, 0, none⟩), .int .u64 150] 73)).alloc (.cells #[.pointer (some ⟨1, 53, none⟩), .pointer (some ⟨w.heap.size, 0, none⟩), .int .u64 150] 73)).alloc (.cells #[.int .i64 n] 23)).setCell t (.int .i64 n) := by
  have h6 := @run_callFunc_extern Tryd.prog 32 _ (fun args => ReflectliteValue.unpack (args.getD 0 (.tuple #[]))) Tryd.func32 (by kernel_rfl) (by kernel_rfl) (by kernel_rfl) (by kernel_rfl)
  have h7 := @run_callFunc_extern Tryd.prog 33 _ (ReflectliteValue.methodAny (ReflectliteValue.valueError "reflectlite.Value.Type" 0) (fun t _ _ _ => ReflectliteType.toType t)) Tryd.func33 (by kernel_rfl) (by kernel_rfl) (by kernel_rfl) (by kernel_rfl)
  have h8 := @run_callFunc_extern Tryd.prog 34 _ (ReflectliteValue.method (ReflectliteValue.valueError "reflectlite.Value.IsNil" 0) ReflectliteValue.isNil) Tryd.func34 (by kernel_rfl) (by kernel_rfl) (by kernel_rfl) (by kernel_rfl)
  have h27 := @run_callFunc_extern Tryd.prog 56 _ (ReflectliteType.abiMethod fun t => do pure (.int .u8 (← Rtype.kind t))) Tryd.func56 (by kernel_rfl) (by kernel_rfl) (by kernel_rfl) (by kernel_rfl)
  have h37 := @run_callFunc_extern Tryd.prog 71 _ (ReflectliteType.method ReflectliteType.elem) Tryd.func71 (by kernel_rfl) (by kernel_rfl) (by kernel_rfl) (by kernel_rfl)
  have h38 := @run_callFunc_extern Tryd.prog 72 _ (ReflectliteType.relation "Implements" ReflectliteType.implements_) Tryd.func72 (by kernel_rfl) (by kernel_rfl) (by kernel_rfl) (by kernel_rfl)
  have h10 := @run_callFunc_extern Tryd.prog 37 _ ReflectliteType.typeOf Tryd.func37 (by kernel_rfl) (by kernel_rfl) (by kernel_rfl) (by kernel_rfl)
  have h35 := @run_callFunc_extern Tryd.prog 69 _ (ReflectliteType.relation "AssignableTo" ReflectliteType.assignableTo) Tryd.func69 (by kernel_rfl) (by kernel_rfl) (by kernel_rfl) (by kernel_rfl)
  have h11 := @run_callFunc_extern Tryd.prog 39 _ (ReflectliteValue.method (ReflectliteValue.valueError "reflectlite.Value.Elem" 0) ReflectliteValue.elem) Tryd.func39 (by kernel_rfl) (by kernel_rfl) (by kernel_rfl) (by kernel_rfl)
  have h12 := @run_callFunc_extern Tryd.prog 40 _ ReflectliteValue.set Tryd.func40 (by kernel_rfl) (by kernel_rfl) (by kernel_rfl) (by kernel_rfl)
  have tO := eTypeOfE
  have mA := eMethodAssignableTo
  have a25 := eAssignableE
  have v25 := eValueOfE
  have f6 := eValueOfP
  have f7 := eTypeP
  have mK := eMethodKind
  have mE := eMethodElem
  have mI := eMethodImplements
  have k27 := eKindP
  have k25 := eKindE
  have e27 := eElemP
  have i25 := eImplementsE
  have n8 := eIsNilP ⟨w.heap.size, 0, none⟩ t ((w.alloc (.cells #[.pointer (some t)] 53)).alloc (.cells #[.pointer (some ⟨1, 53, none⟩), .pointer (some ⟨w.heap.size, 0, none⟩), .int .u64 150] 73)) (by simp)
  have hlt : 0 < w.heap.size := hg.lt
  have hg2 : ((w.alloc (.cells #[.pointer (some t)] 53)).alloc (.cells #[.pointer (some ⟨1, 53, none⟩), .pointer (some ⟨w.heap.size, 0, none⟩), .int .u64 150] 73)).cell? ⟨0, 0, none⟩ = some (.iface 90 (.agg #[.pointer (some ⟨1, 31, none⟩)])) := by
    rw [World.cell?_alloc_lt _ _ ⟨0, 0, none⟩ (Nat.lt_of_lt_of_le hlt (by simp)), World.cell?_alloc_lt _ _ ⟨0, 0, none⟩ hlt]; exact hg
  have htl : t.block < w.heap.size := by
    rcases Nat.lt_or_ge t.block w.heap.size with h | h
    · exact h
    · simp [World.cell?, Array.getElem?_eq_none h] at ht0
  have el := eElemV ⟨w.heap.size, 0, none⟩ t (((w.alloc (.cells #[.pointer (some t)] 53)).alloc (.cells #[.pointer (some ⟨1, 53, none⟩), .pointer (some ⟨w.heap.size, 0, none⟩), .int .u64 150] 73)).alloc (.cells #[.pointer (some ⟨1, 53, none⟩), .pointer (some ⟨w.heap.size, 0, none⟩), .int .u64 150] 73)) (by rw [World.cell?_alloc_lt _ _ ⟨w.heap.size, 0, none⟩ (by simp; omega)]; simp)
  have st := eSet t ⟨w.heap.size + 1 + 1 + 1, 0, none⟩ n old ((((w.alloc (.cells #[.pointer (some t)] 53)).alloc (.cells #[.pointer (some ⟨1, 53, none⟩), .pointer (some ⟨w.heap.size, 0, none⟩), .int .u64 150] 73)).alloc (.cells #[.pointer (some ⟨1, 53, none⟩), .pointer (some ⟨w.heap.size, 0, none⟩), .int .u64 150] 73)).alloc (.cells #[.int .i64 n] 23))
    (by rw [World.cell?_alloc_at _ _ _ _ (by simp)]; rfl)
    (by rw [World.cell?_alloc_lt _ _ t (by simp; omega), World.cell?_alloc_lt _ _ t (by simp; omega), World.cell?_alloc_lt _ _ t (by simp; omega), World.cell?_alloc_lt _ _ t htl]; exact ht0)
    (by rw [World.frozen?_alloc_old _ _ t (by simp; omega), World.frozen?_alloc_old _ _ t (by simp; omega), World.frozen?_alloc_old _ _ t (by simp; omega), World.frozen?_alloc_old _ _ t (Nat.ne_of_lt htl)]; exact hf0)
  clear hg
  go_enter Tryd.func24, Tryd.ntmps24
  go_wp2
  refine wp_loop_rounds 1 ?_
  rw [rounds_succ]
  go_wp2
  go_ret
  exact ⟨rfl, rfl⟩
/-- fault.Code of nothing. -/
theorem code_nil (w : World) : Calls Tryd.prog 10 #[.nilIface] w fun e w' => e = .returned (.int .i64 0) ∧ Fr noneOf w w' := by
  go_enter Tryd.func10, Tryd.ntmps10
  go_wp2_with (go_at_call 24; refine (as_nil _ _).mono ?_; rintro e w' ⟨rfl, rfl⟩)
  go_ret
  exact ⟨rfl, (Fr.refl _ _).alloc _⟩
/-- fault.Code of a number. -/
theorem code_num (n : Int) (w : World) (hg : errT w) : Calls Tryd.prog 10 #[.iface 23 (.int .i64 n)] w fun e w' => e = .returned (.int .i64 n) ∧ Fr noneOf w w' := by
  have hb := Blk.new w 23 #[.int .i64 0]
  have hc : (w.alloc (.cells #[.int .i64 0] 23)).cell? ⟨w.heap.size, 0, none⟩ = some (.int .i64 0) := hb.cell 0
  have hf := hb.frozen 0
  have HG := Lib.hid (hg.fr ((Fr.refl noneOf w).alloc (.cells #[.int .i64 0] 23)))
  clear hg hb
  go_enter Tryd.func10, Tryd.ntmps10
  go_wp2_with (go_at_call 24; refine (as_hit n _ _ _ HG.out hc hf).mono ?_; rintro e w' ⟨rfl, rfl⟩)
  go_ret
  refine ⟨rfl, ?_⟩
  repeat (first | exact Fr.refl _ _ | apply Fr.alloc | (refine Fr.setCell ?_ (.inr (Nat.le_refl _)) _))
/-- fault.New. -/
theorem fnew_no (w : World) : Calls Tryd.prog 25 #[.int .i64 0] w fun e w' => e = .returned .nilIface ∧ w = w' := by
  go_enter Tryd.func25, Tryd.ntmps25
  go_wp2
  go_ret
  exact ⟨rfl, rfl⟩
theorem fnew_yes (n : Int) (w : World) (hn : (n == 0) = false) : Calls Tryd.prog 25 #[.int .i64 n] w fun e w' => e = .returned (.iface 23 (.int .i64 n)) ∧ w = w' := by
  go_enter Tryd.func25, Tryd.ntmps25
  go_wp2
  go_ret
  exact ⟨rfl, rfl⟩
end Go.Proofs.YtijcochanobpgaaDoor

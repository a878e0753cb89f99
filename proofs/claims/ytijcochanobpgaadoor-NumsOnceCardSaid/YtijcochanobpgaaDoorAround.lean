/-
  Contracts: fault.At; a row's Err and End; fault.Is of a number with a place around it.
-/
import Derived.Test.YtijcochanobpgaaDoorReader
import Derived.Test.YtijcochanobpgaaDoorIs
namespace Go.Proofs.YtijcochanobpgaaDoor
open Go.RowKit Nums Go.Extern.Stop Go.Stop Go.Extern
set_option linter.unusedVariables false

def arC (c p : Int) : Array Value := #[.iface 23 (.int .i64 c), .int .i64 p, .string ⟨#[]⟩, .bool false]
theorem at_none (p : Int) (w : World) : Calls Tryd.prog 26 #[.nilIface, .int .i64 p] w fun e w' => e = .returned .nilIface ∧ w = w' := by
  go_enter Tryd.func26, Tryd.ntmps26
  go_wp2
  go_ret
  exact ⟨rfl, rfl⟩
theorem at_num (c p : Int) (w : World) : Calls Tryd.prog 26 #[.iface 23 (.int .i64 c), .int .i64 p] w fun e w' => ∃ g, e = .returned (.iface 66 (.pointer (some ⟨g, 0, none⟩))) ∧ Blk w' g 68 (arC c p) ∧ Fr noneOf w w' ∧ w.heap.size ≤ g := by
  have HB := Lib.hid (Blk.new w 68 (arC c p))
  go_enter Tryd.func26, Tryd.ntmps26
  go_wp2
  go_ret
  exact ⟨w.heap.size, rfl, HB.out, (Fr.refl _ _).alloc _, Nat.le_refl _⟩
theorem err_ok (s : ByteArray) (p b : Nat) (w : World) (h : Rw s p 0 b w) : Calls Tryd.prog 11 #[.pointer (some ⟨b, 0, none⟩)] w fun e w' => e = .returned .nilIface ∧ Fr noneOf w w' := by
  have c1 : w.cell? ⟨b, 1, none⟩ = some (.int .i64 (p : Int)) := h.cell 1
  have c2 : w.cell? ⟨b, 2, none⟩ = some (.int .i64 0) := h.cell 2
  clear h
  go_enter Tryd.func11, Tryd.ntmps11
  go_wp2
  go_quiet ((first
    | (go_at_call 25; exact Calls.quiet_of_same ((fnew_no _).mono fun _ _ ⟨h1, h2⟩ => ⟨h1, h2.symm⟩))
    | (go_at_call 26; exact Calls.quiet_of_same ((at_none _ _).mono fun _ _ ⟨h1, h2⟩ => ⟨h1, h2.symm⟩))))
  go_wp2
  go_ret
  exact ⟨rfl, (Fr.refl _ _).drewN _⟩
theorem end_done (s : ByteArray) (b : Nat) (w : World) (h : Rw s s.size 0 b w) : Calls Tryd.prog 16 #[.pointer (some ⟨b, 0, none⟩)] w fun e w' => e = .returned .nilIface ∧ Fr noneOf w w' := by
  have c0 : w.cell? ⟨b, 0, none⟩ = some (.string s) := h.cell 0
  have c1 : w.cell? ⟨b, 1, none⟩ = some (.int .i64 (s.size : Int)) := h.cell 1
  have HW := Lib.hid h
  clear h
  go_enter Tryd.func16, Tryd.ntmps16
  go_wp2
  go_quiet ((go_at_call 21; exact Calls.quiet_of_same ((works_yes s s.size b _ (HW.out.fr0 (by first | exact (Fr.refl _ _).drewN _ | exact Fr.refl _ _ | exact (Fr.refl _ _).drew))).mono fun _ _ ⟨h1, h2⟩ => ⟨h1, h2.symm⟩)))
  go_wp2_with (go_at_call 11; refine (err_ok s s.size b _ (HW.out.fr0 ((Fr.refl noneOf w).drewN _))).mono ?_; rintro e w2 ⟨rfl, hf2⟩)
  go_ret
  exact ⟨rfl, ((Fr.refl noneOf w).drewN _).trans hf2⟩
theorem end_more (s : ByteArray) (p b : Nat) (w : World) (hp : p < s.size) (h : Rw s p 0 b w) : Calls Tryd.prog 16 #[.pointer (some ⟨b, 0, none⟩)] w fun e w' => ∃ g, e = .returned (.iface 66 (.pointer (some ⟨g, 0, none⟩))) ∧ Blk w' g 68 (arC 10 p) ∧ Fr noneOf w w' := by
  have c0 : w.cell? ⟨b, 0, none⟩ = some (.string s) := h.cell 0
  have c1 : w.cell? ⟨b, 1, none⟩ = some (.int .i64 (p : Int)) := h.cell 1
  have HW := Lib.hid h
  have hpI : (p : Int) < (s.size : Int) := by omega
  clear h
  go_enter Tryd.func16, Tryd.ntmps16
  go_wp2
  go_quiet ((go_at_call 21; exact Calls.quiet_of_same ((works_yes s p b _ (HW.out.fr0 (by first | exact (Fr.refl _ _).drewN _ | exact Fr.refl _ _ | exact (Fr.refl _ _).drew))).mono fun _ _ ⟨h1, h2⟩ => ⟨h1, h2.symm⟩)))
  go_wp2
  (go_region_held3 (fun w' => w'.cell? ⟨b, 1, none⟩ = some (.int .i64 (p : Int)) ∧ Fr noneOf w w')
    (first | exact ⟨(HW.out.fr0 hk).cell 1, hk⟩ | (have q : Fr noneOf w (w.drewN nq) := (Fr.refl noneOf w).drewN nq; exact ⟨(HW.out.fr0 q).cell 1, q⟩) | (have q : Fr noneOf w (w.drewN nq).drew := ((Fr.refl noneOf w).drewN nq).drew; exact ⟨(HW.out.fr0 q).cell 1, q⟩) | go_keep)
    (first
      | (go_at_call 25; go_split_ands; (with_reducible refine (fnew_yes 10 _ rfl).mono ?_); rintro e wk ⟨rfl, rfl⟩; have hk := (by assumption : Fr noneOf w _))
      | (go_at_call 26; go_split_ands; (with_reducible refine (at_num 10 _ _).mono ?_); rintro e wk ⟨g, rfl, hB, hf, hg⟩; have hk := Fr.trans (S := noneOf) (a := w) (by assumption) hf)))
  all_goals
    go_wp2
    go_ret
    exact ⟨_, rfl, hB, hk⟩
theorem arLacksIs (v : Value) (xT : TypeId) (w : World) : (Instr.typeAssert (.iface 66 v) xT 101 true).run Tryd.prog w = .ok (.tuple #[.nilIface, .bool false]) w := run_typeAssert_lacksB Tryd.underlying101 (by kernel_rfl) (by kernel_rfl) v xT w
theorem arHasUnwrap (v : Value) (xT : TypeId) (w : World) : (Instr.typeAssert (.iface 66 v) xT 97 true).run Tryd.prog w = .ok (.tuple #[.iface 66 v, .bool true]) w := run_typeAssert_hasB Tryd.underlying97 (by kernel_rfl) v xT w
theorem arUnwrap (g : Nat) (w : World) : (Go.method 231 66 (.pointer (some ⟨g, 0, none⟩)) "Unwrap").run Tryd.prog w = .ok (62, .pointer (some ⟨g, 0, none⟩)) w := by kernel_rfl
theorem arNe (v : Value) (c : Int) (w : World) : (binOp .eql 31 (.iface 66 v) (.iface 23 (.int .i64 c))).run Tryd.prog w = .ok (.bool false) w := run_eql_iface_types 66 23 v _ Tryd.underlying31 (by decide) w
set_option maxRecDepth 100000 in
set_option maxHeartbeats 4000000 in
theorem is_around (g : Nat) (c p : Int) (w : World) (hb : Blk w g 68 (arC c p)) : Calls Tryd.prog 20 #[.iface 66 (.pointer (some ⟨g, 0, none⟩)), .int .i64 c] w fun e w' => e = .returned (.bool true) ∧ Fr noneOf w w' := by
  have h10 := @run_callFunc_extern Tryd.prog 37 _ ReflectliteType.typeOf Tryd.func37 (by kernel_rfl) (by kernel_rfl) (by kernel_rfl) (by kernel_rfl)
  have hC := @run_callFunc_extern Tryd.prog 70 _ (ReflectliteType.method (fun t => do Rtype.noPackHeld "Comparable" t; pure (.bool (← typeInfo t).comparable))) Tryd.func70 (by kernel_rfl) (by kernel_rfl) (by kernel_rfl) (by kernel_rfl)
  have eC := eComparable
  have eQ := eq_errno c c
  rw [show (c == c) = true from by simp] at eQ
  have tO := eTypeOfE
  have mC := eMethodComparable
  have c0 : w.cell? ⟨g, 0, none⟩ = some (.iface 23 (.int .i64 c)) := hb.cell 0
  have aN := fun w => arNe (.pointer (some ⟨g, 0, none⟩)) c w
  have aL := fun w => arLacksIs (.pointer (some ⟨g, 0, none⟩)) 31 w
  have aH := fun w => arHasUnwrap (.pointer (some ⟨g, 0, none⟩)) 31 w
  have aU := arUnwrap g
  clear hb
  go_enter Tryd.func20, Tryd.ntmps20
  go_wp2
  refine wp_loop_rounds 2 ?_
  rw [rounds_succ]
  go_wp2
  rw [rounds_succ]
  go_wp2
  go_ret
  exact ⟨rfl, by repeat (first | exact Fr.refl _ _ | apply Fr.alloc)⟩
end Go.Proofs.YtijcochanobpgaaDoor

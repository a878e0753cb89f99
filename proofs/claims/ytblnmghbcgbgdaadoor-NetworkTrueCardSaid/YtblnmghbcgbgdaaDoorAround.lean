/-
  Contracts: fault.At; a row's Err and End; fault.Is of a number with a place around it.
-/
import Derived.Test.YtblnmghbcgbgdaaDoorReader
namespace Go.Proofs.YtblnmghbcgbgdaaDoor
open Go.RowKit Nums Go.Extern.Stop Go.Stop Go.Extern
set_option linter.unusedVariables false

def arC (c p : Int) : Array Value := #[.iface 32 (.int .i64 c), .int .i64 p, .string ⟨#[]⟩, .bool false]
theorem at_none (p : Int) (w : World) : Calls Tryd.prog 70 #[.nilIface, .int .i64 p] w fun e w' => e = .returned .nilIface ∧ w = w' := by
  go_enter Tryd.func70, Tryd.ntmps70
  go_wp2
  go_ret
  exact ⟨rfl, rfl⟩
theorem at_num (c p : Int) (w : World) : Calls Tryd.prog 70 #[.iface 32 (.int .i64 c), .int .i64 p] w fun e w' => ∃ g, e = .returned (.iface 152 (.pointer (some ⟨g, 0, none⟩))) ∧ Blk w' g 154 (arC c p) ∧ Fr noneOf w w' ∧ w.heap.size ≤ g := by
  have HB := Lib.hid (Blk.new w 154 (arC c p))
  go_enter Tryd.func70, Tryd.ntmps70
  go_wp2
  go_ret
  exact ⟨w.heap.size, rfl, HB.out, (Fr.refl _ _).alloc _, Nat.le_refl _⟩
theorem err_ok (s : ByteArray) (p b : Nat) (w : World) (h : Rw s p 0 b w) : Calls Tryd.prog 65 #[.pointer (some ⟨b, 0, none⟩)] w fun e w' => e = .returned .nilIface ∧ Fr noneOf w w' := by
  have c1 : w.cell? ⟨b, 1, none⟩ = some (.int .i64 (p : Int)) := h.cell 1
  have c2 : w.cell? ⟨b, 2, none⟩ = some (.int .i64 0) := h.cell 2
  clear h
  go_enter Tryd.func65, Tryd.ntmps65
  go_wp2
  go_quiet ((first
    | (go_at_call 26; exact Calls.quiet_of_same ((fnew_no _).mono fun _ _ ⟨h1, h2⟩ => ⟨h1, h2.symm⟩))
    | (go_at_call 70; exact Calls.quiet_of_same ((at_none _ _).mono fun _ _ ⟨h1, h2⟩ => ⟨h1, h2.symm⟩))))
  go_wp2
  go_ret
  exact ⟨rfl, (Fr.refl _ _).drewN _⟩
theorem end_done (s : ByteArray) (b : Nat) (w : World) (h : Rw s s.size 0 b w) : Calls Tryd.prog 37 #[.pointer (some ⟨b, 0, none⟩)] w fun e w' => e = .returned .nilIface ∧ Fr noneOf w w' := by
  have c0 : w.cell? ⟨b, 0, none⟩ = some (.string s) := h.cell 0
  have c1 : w.cell? ⟨b, 1, none⟩ = some (.int .i64 (s.size : Int)) := h.cell 1
  have HW := Lib.hid h
  clear h
  go_enter Tryd.func37, Tryd.ntmps37
  go_wp2
  go_quiet ((go_at_call 69; exact Calls.quiet_of_same ((works_yes s s.size b _ (HW.out.fr0 (by first | exact (Fr.refl _ _).drewN _ | exact Fr.refl _ _ | exact (Fr.refl _ _).drew))).mono fun _ _ ⟨h1, h2⟩ => ⟨h1, h2.symm⟩)))
  go_wp2_with (go_at_call 65; refine (err_ok s s.size b _ (HW.out.fr0 ((Fr.refl noneOf w).drewN _))).mono ?_; rintro e w2 ⟨rfl, hf2⟩)
  go_ret
  exact ⟨rfl, ((Fr.refl noneOf w).drewN _).trans hf2⟩
theorem end_more (s : ByteArray) (p b : Nat) (w : World) (hp : p < s.size) (h : Rw s p 0 b w) : Calls Tryd.prog 37 #[.pointer (some ⟨b, 0, none⟩)] w fun e w' => ∃ g, e = .returned (.iface 152 (.pointer (some ⟨g, 0, none⟩))) ∧ Blk w' g 154 (arC 10 p) ∧ Fr noneOf w w' := by
  have c0 : w.cell? ⟨b, 0, none⟩ = some (.string s) := h.cell 0
  have c1 : w.cell? ⟨b, 1, none⟩ = some (.int .i64 (p : Int)) := h.cell 1
  have HW := Lib.hid h
  have hpI : (p : Int) < (s.size : Int) := by omega
  clear h
  go_enter Tryd.func37, Tryd.ntmps37
  go_wp2
  go_quiet ((go_at_call 69; exact Calls.quiet_of_same ((works_yes s p b _ (HW.out.fr0 (by first | exact (Fr.refl _ _).drewN _ | exact Fr.refl _ _ | exact (Fr.refl _ _).drew))).mono fun _ _ ⟨h1, h2⟩ => ⟨h1, h2.symm⟩)))
  go_wp2
  (go_region_held3 (fun w' => w'.cell? ⟨b, 1, none⟩ = some (.int .i64 (p : Int)) ∧ Fr noneOf w w')
    (first | exact ⟨(HW.out.fr0 hk).cell 1, hk⟩ | (have q : Fr noneOf w (w.drewN nq) := (Fr.refl noneOf w).drewN nq; exact ⟨(HW.out.fr0 q).cell 1, q⟩) | (have q : Fr noneOf w (w.drewN nq).drew := ((Fr.refl noneOf w).drewN nq).drew; exact ⟨(HW.out.fr0 q).cell 1, q⟩) | go_keep)
    (first
      | (go_at_call 26; go_split_ands; (with_reducible refine (fnew_yes 10 _ rfl).mono ?_); rintro e wk ⟨rfl, rfl⟩; have hk := (by assumption : Fr noneOf w _))
      | (go_at_call 70; go_split_ands; (with_reducible refine (at_num 10 _ _).mono ?_); rintro e wk ⟨g, rfl, hB, hf, hg⟩; have hk := Fr.trans (S := noneOf) (a := w) (by assumption) hf)))
  all_goals
    go_wp2
    go_ret
    exact ⟨_, rfl, hB, hk⟩
theorem arHasUnwrap (v : Value) (xT : TypeId) (w : World) : (Instr.typeAssert (.iface 152 v) xT 145 true).run Tryd.prog w = .ok (.tuple #[.iface 152 v, .bool true]) w := run_typeAssert_hasB Tryd.underlying145 (by kernel_rfl) v xT w
theorem arUnwrap (g : Nat) (w : World) : (Go.method 286 152 (.pointer (some ⟨g, 0, none⟩)) "Unwrap").run Tryd.prog w = .ok (129, .pointer (some ⟨g, 0, none⟩)) w := by kernel_rfl
end Go.Proofs.YtblnmghbcgbgdaaDoor

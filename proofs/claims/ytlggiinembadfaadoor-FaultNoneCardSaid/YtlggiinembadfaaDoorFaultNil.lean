/-
  Contracts of package fault where there is no fault: Join, At, In, Place, Path, Text, Is.
-/
import Derived.Test.YtlggiinembadfaaDoorIs
import Derived.Test.YtlggiinembadfaaDoorSlice
namespace Go.Proofs.YtlggiinembadfaaDoor
open Go.RowKit Go.Extern.Stop Go.Stop Go.Extern
set_option linter.unusedVariables false
set_option linter.unusedSimpArgs false

theorem fat_nil (p : Int) (w : World) : Calls Tryd.prog 6 #[.nilIface, .int .i64 p] w fun e w' => e = .returned .nilIface ∧ w = w' := by
  go_enter Tryd.func6, Tryd.ntmps6
  go_wp2
  go_ret
  exact ⟨rfl, rfl⟩
theorem fin_nil (s : ByteArray) (w : World) : Calls Tryd.prog 5 #[.nilIface, .string s] w fun e w' => e = .returned .nilIface ∧ w = w' := by
  go_enter Tryd.func5, Tryd.ntmps5
  go_wp2
  go_ret
  exact ⟨rfl, rfl⟩
theorem ftext_nil (w : World) : Calls Tryd.prog 11 #[.nilIface] w fun e w' => e = .returned (.string ⟨#[]⟩) ∧ w = w' := by
  go_enter Tryd.func11, Tryd.ntmps11
  go_wp2
  go_ret
  exact ⟨rfl, rfl⟩
theorem is_nil0 (w : World) : Calls Tryd.prog 13 #[.nilIface, .int .i64 0] w fun e w' => e = .returned (.bool true) ∧ w = w' := by
  go_enter Tryd.func13, Tryd.ntmps13
  go_wp2
  go_ret
  exact ⟨rfl, rfl⟩
theorem nilAround (w : World) : (Instr.typeAssert .nilIface 25 36 true).run Tryd.prog w = .ok (.tuple #[.pointer none, .bool false]) w := by kernel_rfl
theorem nilRow (w : World) : (Instr.typeAssert .nilIface 25 40 true).run Tryd.prog w = .ok (.tuple #[.pointer none, .bool false]) w := by kernel_rfl
set_option maxRecDepth 100000 in
theorem shells_nil (w : World) : Calls Tryd.prog 14 #[.nilIface] w fun e w' => e = .returned (.slice none 0 0) ∧ w = w' := by
  have hA := nilAround w
  have hR := nilRow w
  go_enter Tryd.func14, Tryd.ntmps14
  go_wp2
  go_step3
  go_wp2
  go_step3
  go_wp2
  refine wp_loop_rounds 1 ?_
  rw [rounds_succ]
  go_wp2
  rw [Exit.noGoto_ret]
  go_ret
  exact ⟨rfl, rfl⟩
theorem place_nil (w : World) : Calls Tryd.prog 9 #[.nilIface] w fun e w' => e = .returned (.tuple #[.int .i64 0, .bool false]) ∧ w = w' := by
  go_enter Tryd.func9, Tryd.ntmps9
  go_wp2_with (go_at_call 14; refine (shells_nil _).mono ?_; rintro e w' ⟨rfl, rfl⟩)
  refine wp_loop_rounds 1 ?_
  rw [rounds_succ]
  go_wp2
  exact bodyPost_ret (v := .tuple #[.int .i64 0, .bool false]) (by simp [results, Tryd.results9, go_sem]) rfl ⟨rfl, rfl⟩
theorem join_none (s : ByteArray) (w : World) : Calls Tryd.prog 16 #[.slice none 0 0, .string s] w fun e w' => e = .returned (.string ⟨#[]⟩) ∧ w = w' := by
  go_enter Tryd.func16, Tryd.ntmps16
  go_wp2
  go_ret
  exact ⟨rfl, rfl⟩
theorem path_nil (w : World) : Calls Tryd.prog 12 #[.nilIface] w fun e w' => e = .returned (.string ⟨#[]⟩) ∧ w = w' := by
  go_enter Tryd.func12, Tryd.ntmps12
  go_wp2_with (go_at_call 14; refine (shells_nil _).mono ?_; rintro e w' ⟨rfl, rfl⟩)
  refine wp_loop_rounds 1 ?_
  rw [rounds_succ]
  go_wp2_with (go_at_call 16; refine (join_none _ _).mono ?_; rintro e w' ⟨rfl, rfl⟩)
  go_ret
  exact ⟨rfl, rfl⟩
theorem fjoin_nils (A : Option Addr) (g o c : Nat) (w : World) (hA : A = some ⟨g, o, none⟩) (c0 : w.cell? ⟨g, o, none⟩ = some .nilIface) (c1 : w.cell? ⟨g, o + 1, none⟩ = some .nilIface) :
    Calls Tryd.prog 7 #[.slice A 2 c] w fun e w' => e = .returned .nilIface ∧ w = w' := by
  subst hA
  go_enter Tryd.func7, Tryd.ntmps7
  go_wp2
  refine wp_loop_rounds 3 ?_
  rw [rounds_succ]
  go_wp2
  rw [rounds_succ]
  go_wp2
  rw [rounds_succ]
  go_wp2
  go_ret
  exact ⟨rfl, rfl⟩
end Go.Proofs.YtlggiinembadfaaDoor

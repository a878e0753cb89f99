/-
  Contracts of package nums where there is no row.
-/
import Derived.Test.YtblnmghbcgbgdaaDoorRowBase
import Derived.Test.YtblnmghbcgbgdaaDoorAsW
import Derived.Deep.QuietTactic
import Derived.BigQuiet
namespace Go.Proofs.YtblnmghbcgbgdaaDoor
open Go.RowKit
set_option linter.unusedVariables false

theorem works_nil (w : World) : Calls Tryd.prog 69 #[.pointer none] w fun e w' => e = .returned (.bool false) ∧ w = w' := by
  go_enter Tryd.func69, Tryd.ntmps69
  go_wp2
  go_ret
  exact ⟨rfl, rfl⟩
theorem fail_nil (c : Int) (w : World) : Calls Tryd.prog 66 #[.pointer none, .int .i64 c] w fun e w' => e = .returned (.tuple #[]) ∧ w = w' := by
  go_enter Tryd.func66, Tryd.ntmps66
  go_wp2_with (go_at_call 69; refine (works_nil _).mono ?_; rintro e w' ⟨rfl, rfl⟩)
  go_end0
  exact ⟨rfl, rfl⟩
theorem num_nil (a b : Int) (w : World) : Calls Tryd.prog 67 #[.pointer none, .int .i64 a, .int .i64 b] w fun e w' => e = .returned (.int .i64 0) ∧ w = w' := by
  go_enter Tryd.func67, Tryd.ntmps67
  go_wp2_with (go_at_call 69; refine (works_nil _).mono ?_; rintro e w' ⟨rfl, rfl⟩)
  go_ret
  exact ⟨rfl, rfl⟩
theorem count_nil (b : Int) (w : World) : Calls Tryd.prog 64 #[.pointer none, .int .i64 b] w fun e w' => e = .returned (.int .i64 0) ∧ w = w' := by
  go_enter Tryd.func64, Tryd.ntmps64
  go_wp2_with (go_at_call 67; refine (num_nil 0 b _).mono ?_; rintro e w' ⟨rfl, rfl⟩)
  go_ret
  exact ⟨rfl, rfl⟩
theorem text_nil (b : Int) (w : World) : Calls Tryd.prog 68 #[.pointer none, .int .i64 b] w fun e w' => e = .returned (.string ⟨#[]⟩) ∧ w = w' := by
  go_enter Tryd.func68, Tryd.ntmps68
  go_wp2_with (go_at_call 69; refine (works_nil _).mono ?_; rintro e w' ⟨rfl, rfl⟩)
  go_ret
  exact ⟨rfl, rfl⟩
theorem err_nil (w : World) : Calls Tryd.prog 65 #[.pointer none] w fun e w' => e = .returned (.iface 32 (.int .i64 10)) ∧ w = w' := by
  go_enter Tryd.func65, Tryd.ntmps65
  go_wp2_with (go_at_call 26; refine (fnew_yes 10 _ rfl).mono ?_; rintro e w' ⟨rfl, rfl⟩)
  go_ret
  exact ⟨rfl, rfl⟩
theorem end_nil (w : World) : Calls Tryd.prog 37 #[.pointer none] w fun e w' => e = .returned (.iface 32 (.int .i64 10)) ∧ Fr noneOf w w' := by
  go_enter Tryd.func37, Tryd.ntmps37
  go_wp2
  go_quiet ((go_at_call 69; exact Calls.quiet_of_same ((works_nil _).mono fun _ _ ⟨h1, h2⟩ => ⟨h1, h2.symm⟩)))
  go_wp2_with (go_at_call 65; refine (err_nil _).mono ?_; rintro e w' ⟨rfl, rfl⟩)
  go_ret
  exact ⟨rfl, by repeat (first | exact Fr.refl _ _ | apply Fr.drewN | apply Fr.drew)⟩
end Go.Proofs.YtblnmghbcgbgdaaDoor

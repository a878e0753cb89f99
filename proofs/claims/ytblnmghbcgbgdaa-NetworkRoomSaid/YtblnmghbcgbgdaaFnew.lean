/-
  Contract of fault.New (for seats without errors.As; XAsW has it too).
-/
import Derived.Test.YtblnmghbcgbgdaaBase
import Derived.Test.YtblnmghbcgbgdaaChecked
namespace Go.Proofs.Ytblnmghbcgbgdaa
open Go.RowKit
set_option linter.unusedVariables false

/-- fault.New. -/
theorem fnew_no (w : World) : Calls Try.prog 34 #[.int .i64 0] w fun e w' => e = .returned .nilIface ∧ w = w' := by
  go_enter Try.func34, Try.ntmps34
  go_wp2
  go_ret
  exact ⟨rfl, rfl⟩
theorem fnew_yes (n : Int) (w : World) (hn : (n == 0) = false) : Calls Try.prog 34 #[.int .i64 n] w fun e w' => e = .returned (.iface 51 (.int .i64 n)) ∧ w = w' := by
  go_enter Try.func34, Try.ntmps34
  go_wp2
  go_ret
  exact ⟨rfl, rfl⟩
end Go.Proofs.Ytblnmghbcgbgdaa

/-
  What every card of this seat shares: the listed variable's cell out of the row's hypothesis; a world that meets it.
  (After the guide's worked card.)
-/
import Derived.Test.YtblnmghbcgbgdaaDoorAs
import Derived.Test.YtblnmghbcgbgdaaDoorRows
import Derived.ChangeSame
import Derived.ChangeVars
import Derived.JoinedOf
import Derived.RowKit
import Derived.RowKitTokens
import Derived.LaidLaws
import Derived.LaidHandle
import Derived.Stop.Joined
namespace Go.Proofs.YtblnmghbcgbgdaaDoor
open Go.ChangeShapes Go.WideShapes Go.RowKit
set_option linter.unusedVariables false

theorem dOwn : ownKnob Tryd.prog.godebug = none := by kernel_rfl
theorem dEt : Tryd.prog.globalNamed "errors.errorType" = some 0 := by kernel_rfl
theorem dRt : (Tryd.prog.cutTypes.find? (·.1 == "internal/reflectlite.rtype")).map (·.2) = some 137 := by kernel_rfl
theorem dOneRow : ((List.range 186).filter fun t => Tryd.prog.rowNamed t [101, 114, 114, 111, 114]) = [29] := by kernel_rfl
theorem dSize : Tryd.prog.types.size = 186 := by kernel_rfl
/-- The row's list. -/
def dLaid {H : Type} : List (String × DataW H) := [("errors.errorType", Rows.laid_errors_errorType)]

theorem errT_of_laid {W : World} (h : laidMetH Tryd.prog dLaid W) : errT W := by
  have h' : laidMet Tryd.prog [] W ∧ handlesMet Tryd.prog dLaid W := h
  obtain ⟨name, u, ty, e1, e2, e3, e4, e5⟩ := h'.2 _ (List.mem_singleton.2 rfl)
  have en : name = [101, 114, 114, 111, 114] := (Option.some.inj e1).symm
  subst en
  obtain rfl := Option.some.inj (dRt.symm.trans e2)
  have hm : ty ∈ (List.range 186).filter fun t => Tryd.prog.rowNamed t [101, 114, 114, 111, 114] := List.mem_filter.2 ⟨List.mem_range.2 (by rw [← dSize]; exact e3), e4⟩
  rw [dOneRow] at hm
  obtain rfl := List.mem_singleton.1 hm
  have hh : typeHandle Tryd.prog 29 = .pointer (some ⟨1, 29, none⟩) := by kernel_rfl
  rw [hh] at e5
  simpa [errT] using World.var?_cell dEt e5 0

/-- A world that meets the condition: the settled one, the variable's cell laid. -/
noncomputable def laidWorld (os : Os) : World :=
  let w0 := World.holding Tryd.prog os ⟨#[], #[], []⟩
  { w0 with heap := w0.heap.modify 0 fun
      | .cells _ t frozen => .cells #[.iface 137 (.agg #[.pointer (some ⟨1, 29, none⟩)])] t frozen
      | o => o }
theorem laidWorld_met (os : Os) (args : Array Value) : laidMetH Tryd.prog dLaid ((laidWorld os).forCall (fun _ _ => 0) ⟨#[], args, []⟩).memory :=
  laidMetH_of_parts (laidMet_nil _ _) (by kernel_rfl)
end Go.Proofs.YtblnmghbcgbgdaaDoor

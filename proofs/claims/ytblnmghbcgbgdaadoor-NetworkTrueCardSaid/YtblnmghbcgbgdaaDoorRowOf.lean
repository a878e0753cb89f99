/-
  nums.Of; a row kept.
-/
import Derived.Test.YtblnmghbcgbgdaaDoorAround
namespace Go.Proofs.YtblnmghbcgbgdaaDoor
open Go.RowKit Nums
set_option linter.unusedVariables false

theorem Rw.fr0 {s : ByteArray} {p : Nat} {c : Int} {b : Nat} {w w' : World} (h : Rw s p c b w) (hf : Fr noneOf w w') : Rw s p c b w' := Blk.fr0 h hf
theorem of_any (s : ByteArray) (w : World) : Calls Tryd.prog 35 #[.string s] w fun e w' => ∃ b, e = .returned (.pointer (some ⟨b, 0, none⟩)) ∧ Rw s 0 0 b w' ∧ Fr noneOf w w' ∧ w.heap.size ≤ b := by
  have HB := Lib.hid (Blk.new w 118 #[.string s, .int .i64 0, .int .i64 0])
  go_enter Tryd.func35, Tryd.ntmps35
  go_wp2
  go_ret
  exact ⟨w.heap.size, rfl, HB.out, (Fr.refl _ _).alloc _, Nat.le_refl _⟩
end Go.Proofs.YtblnmghbcgbgdaaDoor
